/-
  Steps to: What trees share stays, whatever is done with one of them. No condition.
-/
import Derived.Test.YtglgbkpniipjbaaGreatDoorPart4
import Derived.Test.YtglgbkpniipjbaaGreatDoorCards
import Derived.Test.YtglgbkpniipjbaaGreatDoorTie
import Derived.WalkKit
import Derived.WalkSpells
import Derived.Deep.Quiet
import Derived.KernelRfl
import Derived.IntWalk
import Derived.Maps.AppendAt
import Derived.Laws.AppendOwnNone
import Derived.Laws.CopyRow
import Derived.StillTail
import Derived.Deep.RegionHeld
import Derived.Laws.IdiomStrings
import Derived.Laws.BytesArg
import Derived.Laws.OwnMore
import Derived.Lib.Strings
import Derived.ArgAppend
import Derived.Test.YtglgbkpniipjbaaGreatDoorRows
import Derived.RangeFuncLeaves
import Derived.RangeFuncRecord
import Derived.RangeFuncCalls
import Derived.RangeFuncSeq
import Derived.OrdersIn
import Derived.TacticsIn
import Derived.Laws.IdiomRangeMap
import Derived.Defers
import Derived.Laws.LoneSync
import Derived.LoopN
import Derived.Lib.TrailingZeros
import Derived.Test.YtglgbkpniipjbaaGreatDoorProg
import Derived.Shelf.Sort.Plain
import Derived.Shelf.Slices.In.SortNone
import Derived.DataReads
import Derived.ProofKit
import Derived.OpenShut
import Derived.Lib.SmallJoins
import Derived.Deep.DeepHandedRow
import Derived.Lib.LaidTab
set_option maxRecDepth 100000
set_option linter.unusedSimpArgs false
set_option linter.unusedVariables false
open Go.Proofs.Tryz
namespace Go.Proofs.YtglgbkpniipjbaaGreatDoor
section
open Go.RowKit
abbrev gK (v:Value) (es:List E):Ae:=grow 3 1 v (kL es).length ((kL es).map (Value.int .i64))
abbrev gV (v:Value) (es:List E):Ae:=grow 3 1 v (vL es).length ((vL es).map (Value.int .i64))
abbrev Fk (A:Ae) (kv:Value) (es:List E):Prop:=∀ h,A h→rdH 1 kv (kL es).length ((kL es).map (Value.int .i64)) h
abbrev Fl (B:Ae) (vv:Value) (es:List E):Prop:=∀ h,B h→rdH 1 vv (vL es).length ((vL es).map (Value.int .i64)) h
abbrev CN (lf:Bool) (k v:Value):Value:= .agg #[.bool lf,k,v]
theorem Q7 {A B:List E} {key:Int} (h1:∀ e∈A,e.1<key) (h2:∀ e,B.head?=some e→key≤e.1):FdI (kL (A++B)) key A.length:=by
 refine ⟨by simp,fun j x hj hx=> ?_,fun x hx=> ?_⟩
 ·simp only[kL,List.getElem?_map,List.getElem?_append_left hj] at hx
  cases h:A[j]? with
  | none=>rw[h] at hx;cases hx
  | some e=>rw[h] at hx;simp at hx;subst hx;exact h1 e (List.mem_of_getElem? h)
 ·simp only[kL,List.getElem?_map,List.getElem?_append_right (Nat.le_refl _),Nat.sub_self] at hx
  cases B with
  | nil=>simp at hx
  | cons e t=>simp at hx;subst hx;exact h2 e rfl
theorem fd_cases {es:List E} (h:Srt es) (key:Int):(∃ X v Y,es=X++(key,v)::Y∧(∀ e∈X,e.1<key)∧FdI (kL es) key X.length∧(kL es)[X.length]? =some key)∨(¬ Cy key es∧∃ X Y,es=X++Y∧(∀ e∈X,e.1<key)∧(∀ e∈Y,key<e.1)∧FdI (kL es) key X.length∧¬ (kL es)[X.length]? =some key):=by
 rcases key_split h key with ⟨X,v,Y,rfl,h1⟩|⟨h0,X,Y,rfl,h1,h2⟩
 ·exact .inl ⟨X,v,Y,rfl,h1,Q7 h1 (fun e he=>by simp at he;subst he;exact Int.le_refl _),by simp[kL]⟩
 ·refine .inr ⟨h0,X,Y,rfl,h1,h2,Q7 h1 (fun e he=> ?_),fun q=> ?_⟩
  ·cases Y with
   | nil=>cases he
   | cons y t=>simp at he;subst he;exact Int.le_of_lt (h2 y (by simp))
  ·simp only[kL,List.getElem?_map,List.getElem?_append_right (Nat.le_refl _),Nat.sub_self] at q
   cases Y with
   | nil=>simp at q
   | cons y t=>simp at q;have:=h2 y (by simp);omega
theorem Ps {lf:Bool} {kv vv:Value} {es:List E} {A B:Ae} (hA:Fk A kv es) (hB:Fl B vv es) (hck:CkN lf (kL es) (vL es)) (hs:Srt es) (key:Int) (val:Nat) (hkv:(0≤key∧key<1048576)∧1≤val∧val<1024) (hfit:Cy key es∨es.length<8):
  Cn prog 132 [CN lf kv vv,Iv_ key,Iv_ (val:Int)] [A,B] (fun v Γ=>∃ v1 v2:Value,v= .tuple #[CN lf v1 v2,Iv_ 0]∧Γ=[gK v1 (putE key val es),gV v2 (putE key val es),A,B]):=by
 have hkv':(0≤key∧key<1048576)∧1≤(val:Int)∧(val:Int)<1024:=by omega
 rcases fd_cases hs key with ⟨X,v0,Y,rfl,h1,hF,hfd⟩|⟨h0,X,Y,rfl,h1,h2,hF,hfd⟩
 ·have h:=Wa lf kv vv _ _ A B hA hB hck key (val:Int) hkv' X.length hF hfd
  have e1:kL (putE key val (X++(key,v0)::Y))=kL (X++(key,v0)::Y):=by rw[DB _ h1];simp[kL]
  have e2:vL (putE key val (X++(key,v0)::Y))=(vL (X++(key,v0)::Y)).set X.length (val:Int):=by
   rw[DB _ h1];simp[vL,List.set_append]
  refine Cn.mono h ?_
  rintro v Γ ⟨v1,v2,rfl,rfl⟩
  refine ⟨v1,v2,rfl,?_⟩
  unfold gK gV
  rw[e1,e2,List.length_set]
 ·have h:=Wc lf kv vv _ _ A B hA hB hck key (val:Int) hkv' X.length hF hfd (by
   rcases hfit with q|q
   ·exact absurd q h0
   ·simpa [kL] using q) (kL (putE key val (X++Y))) (vL (putE key val (X++Y))) (by rw[putE_new h1 h2];simp[kL]) (by rw[putE_new h1 h2];simp[vL])
  exact h
theorem X4 {lf:Bool} {kv vv:Value} {es:List E} {A B:Ae} (hA:Fk A kv es) (hB:Fl B vv es) (hck:CkN lf (kL es) (vL es)) (hs:Srt es) (key:Int) (val:Nat) (hkv:(0≤key∧key<1048576)∧1≤val∧val<1024) (hno:¬ Cy key es) (h8:es.length=8):
  Cn prog 132 [CN lf kv vv,Iv_ key,Iv_ (val:Int)] [A,B] (fun v Γ=>v= .tuple #[CN false (.slice none 0 0) (.slice none 0 0),Iv_ 15]∧Γ=[A,B]):=by
 have hkv':(0≤key∧key<1048576)∧1≤(val:Int)∧(val:Int)<1024:=by omega
 rcases fd_cases hs key with ⟨X,v0,Y,rfl,h1,hF,hfd⟩|⟨h0,X,Y,rfl,h1,h2,hF,hfd⟩
 ·exact absurd ⟨v0,by simp⟩ hno
 ·exact Wb lf kv vv _ _ A B hA hB hck key (val:Int) hkv' X.length hF hfd (by simpa [kL] using h8)
theorem M5 {lf:Bool} {kv vv:Value} {es:List E} {A B:Ae} (hA:Fk A kv es) (hB:Fl B vv es) (h8:es.length≤8) (hs:Srt es) (key:Int):
  Cn prog 43 [CN lf kv vv,Iv_ key] [A,B] (fun v Γ=>(∃ X v0 Y,(es=X++(key,v0)::Y∧∀ e∈X,e.1<key)∧v= .tuple #[Iv_ (X.length:Int),.bool true]∧Γ=[A,B])∨(¬ Cy key es∧∃ i:Nat,v= .tuple #[Iv_ (i:Int),.bool false]∧Γ=[A,B])):=by
 refine Cn.mono (Il lf kv vv _ _ A B hA hB key (by simpa [kL] using h8)) ?_
 rintro v Γ ⟨i,hi,rfl,rfl⟩
 rcases fd_cases hs key with ⟨X,v0,Y,e,h1,hF,hfd⟩|⟨h0,X,Y,_,h1,h2,hF,hfd⟩
 ·obtain rfl:=hi.uniq hF
  exact .inl ⟨X,v0,Y,⟨e,h1⟩,by rw[decide_eq_true hfd],rfl⟩
 ·obtain rfl:=hi.uniq hF
  exact .inr ⟨h0,_,by rw[decide_eq_false hfd],rfl⟩
theorem Kt {lf:Bool} {kv vv:Value} {es:List E} {A B:Ae} (hA:Fk A kv es) (hB:Fl B vv es) (h8:es.length≤8) (hs:Srt es) (hne:es≠[]) (key:Int):
  Cn prog 44 [CN lf kv vv,Iv_ key] [A,B] (fun v Γ=>∃ X e Y,(es=X++e::Y∧(X=[]∨e.1≤key)∧(∀ x∈X,x.1<e.1)∧∀ x∈Y,key<x.1∧e.1<x.1)∧v=Iv_ (X.length:Int)∧Γ=[A,B]):=by
 refine Cn.mono (Tk lf kv vv _ _ A B hA hB key (by simpa [kL] using h8)) ?_
 rintro v Γ ⟨i,hi,rfl,rfl⟩
 obtain ⟨X,e,Y,h1,h2,h3,h4,h5⟩:=NA hs hne key
 obtain ⟨U,V,u1,u2,u3,u4⟩:=FS hs key
 have hF:FcI (kL es) key U.length:=by
  rw[u1]
  refine ⟨by simp,fun j x hj hx=> ?_,fun x hx=> ?_⟩
  ·simp only[kL,List.getElem?_map,List.getElem?_append_left hj] at hx
   cases h:U[j]? with
   | none=>rw[h] at hx;cases hx
   | some e=>rw[h] at hx;simp at hx;subst hx;exact u3 e (List.mem_of_getElem? h)
  ·simp only[kL,List.getElem?_map,List.getElem?_append_right (Nat.le_refl _),Nat.sub_self] at hx
   cases V with
   | nil=>simp at hx
   | cons e t=>simp at hx;subst hx;exact u4 e (by simp)
 obtain rfl:=hi.uniq hF
 refine ⟨X,e,Y,⟨h1,h3,h4,h5⟩,?_,rfl⟩
 rw[h2];unfold X2;rw[u2]
theorem X5 {lf:Bool} {kv vv:Value} {X Y:List E} {e:E} {A B:Ae} (hA:Fk A kv (X++e::Y)) (hB:Fl B vv (X++e::Y)) (hck:CkN lf (kL (X++e::Y)) (vL (X++e::Y))) (hck2:CkN lf (kL (X++Y)) (vL (X++Y))):
  Cn prog 91 [CN lf kv vv,Iv_ (X.length:Int)] [A,B] (fun v Γ=>∃ v1 v2:Value,v= .tuple #[CN lf v1 v2,Iv_ 0]∧Γ=[gK v1 (X++Y),gV v2 (X++Y),A,B]):=
 On lf kv vv _ _ A B hA hB hck X.length (by simp[kL]) (kL (X++Y)) (vL (X++Y)) (by simp[kL,List.drop_append]) (by simp[vL,List.drop_append]) hck2
theorem Wh {lf:Bool} {kv vv:Value} {es:List E} {A B:Ae} (hA:Fk A kv es) (hB:Fl B vv es) (hck:CkN lf (kL es) (vL es)) (h8:es.length=8):
  Cn prog 133 [CN lf kv vv] [A,B] (fun v Γ=>∃ v1 v2 v3 v4:Value,v= .tuple #[CN lf v1 v2,CN lf v3 v4,Iv_ 0]∧Γ=[gK v1 (es.take 4),gV v2 (es.take 4),gK v3 (es.drop 4),gV v4 (es.drop 4),A,B]):=
 Tl lf kv vv _ _ A B hA hB hck (by simp[kL,h8]) (kL (es.take 4)) (vL (es.take 4)) (kL (es.drop 4)) (vL (es.drop 4)) (by simp[kL,h8,List.map_take]) (by simp[kL,vL,h8,List.map_take]) (by simp[kL,h8,List.map_drop]) (by simp[kL,vL,h8,List.map_drop])
theorem Tu {es1 es2:List E} (hs:Srt (es1++es2)):∀ x y:Int,(kL es1)[(kL es1).length - 1]? =some x→(kL es2)[0]? =some y→x<y:=fun x y hx hy=>by
 obtain ⟨a,ha,rfl⟩:=List.mem_map.1 (List.mem_of_getElem? hx)
 obtain ⟨b,hb,rfl⟩:=List.mem_map.1 (List.mem_of_getElem? hy)
 exact (Srt.app.1 hs).2.2 a ha b hb
variable {lf:Bool} {kv1 vv1 kv2 vv2:Value} {es1 es2:List E} {A1 B1 A2 B2:Ae}
theorem X6 (hA1:Fk A1 kv1 es1) (hB1:Fl B1 vv1 es1) (hA2:Fk A2 kv2 es2) (hB2:Fl B2 vv2 es2) (hck1:CkN lf (kL es1) (vL es1)) (hck2:CkN lf (kL es2) (vL es2)) (hs:Srt (es1++es2)) (h8:es1.length+es2.length≤8):
  Cn prog 137 [CN lf kv1 vv1,CN lf kv2 vv2] [A1,B1,A2,B2] (fun v Γ=>∃ v1 v2:Value,v= .tuple #[CN lf v1 v2,Iv_ 0]∧Γ=[gK v1 (es1++es2),gV v2 (es1++es2),A1,B1,A2,B2]):=
 Tm lf kv1 vv1 _ _ A1 B1 hA1 hB1 kv2 vv2 _ _ A2 B2 hA2 hB2 hck1 hck2 (Tu hs) (by simpa [kL] using h8) (kL (es1++es2)) (vL (es1++es2)) (by simp[kL]) (by simp[vL])
theorem joinF_e (hA1:Fk A1 kv1 es1) (hB1:Fl B1 vv1 es1) (hA2:Fk A2 kv2 es2) (hB2:Fl B2 vv2 es2) (hck1:CkN lf (kL es1) (vL es1)) (hck2:CkN lf (kL es2) (vL es2)) (hs:Srt (es1++es2)) (h8:8<es1.length+es2.length):
  Cn prog 137 [CN lf kv1 vv1,CN lf kv2 vv2] [A1,B1,A2,B2] (fun v Γ=>v= .tuple #[CN false (.slice none 0 0) (.slice none 0 0),Iv_ 15]∧Γ=[A1,B1,A2,B2]):=
 Tn lf kv1 vv1 _ _ A1 B1 hA1 hB1 kv2 vv2 _ _ A2 B2 hA2 hB2 hck1 hck2 (Tu hs) (by simpa [kL] using h8)
abbrev EN (es1 es2:List E):Nat:=((es1++es2).length+1) / 2
theorem Wi (hA1:Fk A1 kv1 es1) (hB1:Fl B1 vv1 es1) (hA2:Fk A2 kv2 es2) (hB2:Fl B2 vv2 es2) (hck1:CkN lf (kL es1) (vL es1)) (hck2:CkN lf (kL es2) (vL es2)) (hs:Srt (es1++es2)) (h8:8<es1.length+es2.length):
  Cn prog 138 [CN lf kv1 vv1,CN lf kv2 vv2] [A1,B1,A2,B2] (fun v Γ=>∃ v1 v2 v3 v4:Value,v= .tuple #[CN lf v1 v2,CN lf v3 v4,Iv_ 0]∧Γ=[gK v1 ((es1++es2).take (EN es1 es2)),gV v2 ((es1++es2).take (EN es1 es2)),gK v3 ((es1++es2).drop (EN es1 es2)),gV v4 ((es1++es2).drop (EN es1 es2)),A1,B1,A2,B2]):=by
 have hk:kL es1++kL es2=kL (es1++es2):=by simp[kL]
 have hv:vL es1++vL es2=vL (es1++es2):=by simp[vL]
 have hl:(kL (es1++es2)).length=(es1++es2).length:=by simp[kL]
 exact To lf kv1 vv1 _ _ A1 B1 hA1 hB1 kv2 vv2 _ _ A2 B2 hA2 hB2 hck1 hck2 (Tu hs) (by simp[kL];omega) (kL (es1++es2)) (vL (es1++es2)) hk hv (kL ((es1++es2).take (EN es1 es2))) (vL ((es1++es2).take (EN es1 es2))) (kL ((es1++es2).drop (EN es1 es2))) (vL ((es1++es2).drop (EN es1 es2)))
  (by rw[hl];exact List.map_take.symm) (by rw[hl];exact List.map_take.symm) (by rw[hl];exact List.map_drop.symm) (by rw[hl];exact List.map_drop.symm)
end
section
open Go.RowKit
variable {Tb:Ae}
theorem JK {N:Hm} {h:Nat} {lo hi:Int} {L es a b:List E} {key:Int} {val:Nat} {lf:Bool} (hs:Srt es) (hBd:Bd N h (putE key val es) hi L) (hr:Bx lo hi (putE key val es)) (hk:∀ e∈putE key val es,0≤e.1∧e.1<1048576) (hdup:(vals (putE key val es)).Nodup)
  (e:putE key val es=a++b) (a4:4≤a.length) (a5:a.length≤5) (b4:4≤b.length) (b5:b.length≤5):
  ∃ L1 L2,L=L1++L2∧(Bd N h a (nx b hi) L1∧Bd N h b hi L2)∧(Bx lo (nx b hi) a∧Bx (nx b hi) hi b∧lo<nx b hi∧nx b hi<hi)∧((Nd.mk lf a).Ok∧(Nd.mk lf b).Ok)∧(vals a).Nodup∧(vals b).Nodup:=by
 have hs2:=I1 (k:=key) (v:=val) hs
 rw[e] at hBd hr hk hdup hs2
 obtain ⟨L1,L2,h1,h2,h3⟩:=Bd.app.1 hBd
 have ha:a≠[]:=fun q=>by rw[q] at a4;simp at a4
 have hb:b≠[]:=fun q=>by rw[q] at b4;simp at b4
 obtain ⟨s1,s2,_⟩:=Srt.app.1 hs2
 have hv:vals (a++b)=vals a++vals b:=by simp[vals]
 rw[hv,List.nodup_append] at hdup
 exact ⟨L1,L2,h1,⟨h2,h3⟩,MZ hs2 hr ha hb,⟨⟨s1,by dsimp only;omega,fun x hx=>hk x (by simp[hx]),fun _=>ha⟩,⟨s2,by dsimp only;omega,fun x hx=>hk x (by simp[hx]),fun _=>hb⟩⟩,hdup.1,hdup.2.1⟩
theorem KX (a:Nat) (x y:List E) (Q:List Nat):(a::(vals (x++y)++Q)).Perm (vals y++(a::(vals x++Q))):=by
 have hv:vals (x++y)=vals x++vals y:=by simp[vals]
 rw[hv,List.append_assoc]
 have h1:(a::(vals x++(vals y++Q))).Perm (a::(vals y++(vals x++Q))):=List.Perm.cons _ (by
  rw[←List.append_assoc,←List.append_assoc];exact List.Perm.append_right _ List.perm_append_comm)
 exact h1.trans List.perm_middle.symm
theorem KY (r a:Nat) (x Q:List Nat):(r::(a::(x++Q))).Perm (a::(x++(r::Q))):=
 (List.Perm.swap _ _ _).trans (List.Perm.cons _ List.perm_middle.symm)
theorem EJ {b:List E} {hi:Int} (h:4≤b.length):(kL b)[0]? =some (nx b hi):=by
 cases b with
 | nil=>simp at h
 | cons e t=>rfl
theorem Iq {t t1 t2:TS} {Q:List Nat} {a r h:Nat} {kr hi:Int} {x:List E} {L2:List E} (s1:St t t1 (a::(vals x++Q)) 1 1) (T1:Tr t1.N h r kr hi 4 L2) (s2:St t1 t2 (r::Q) 0 1):St t t2 Q 1 2∧Tr t2.N h r kr hi 4 L2:=
 ⟨s1.trans s2 (fun p hp=>by simp[hp]) (fun p hp=>by simp[hp]) (by omega) (by omega),s2.fr r (by simp) _ _ _ _ _ T1⟩
theorem Oy {lf:Bool} {es:List E} (h:CkN lf (kL es) (vL es)) (hs:Srt es) (h4:0<(es.take 4).length):CkN lf (kL (es.take 4)) (vL (es.take 4))∧Srt (es.take 4):=by
 have e:=List.take_append_drop 4 es
 have hs':=hs
 rw[←e] at hs'
 have h8:es.length≤8:=by have:=h.l8;simpa [kL] using this
 refine ⟨CkN.of ⟨(Srt.app.1 hs').1,by simp;omega,fun x hx=> ?_,fun _ q=>by have q:es.take 4=[]:=q;rw[q] at h4;simp at h4⟩ (fun v hv=> ?_),(Srt.app.1 hs').1⟩
 ·exact h.k x.1 (List.mem_map_of_mem (List.mem_of_mem_take hx))
 ·obtain ⟨x,hx,rfl⟩:=List.mem_map.1 hv
  have:=h.v (x.2:Int) (List.mem_map.2 ⟨x,List.mem_of_mem_take hx,rfl⟩)
  omega
theorem Oz {lf:Bool} {es:List E} (h:CkN lf (kL es) (vL es)) (hs:Srt es) (h4:0<(es.drop 4).length):CkN lf (kL (es.drop 4)) (vL (es.drop 4))∧Srt (es.drop 4):=by
 have e:=List.take_append_drop 4 es
 have hs':=hs
 rw[←e] at hs'
 have h8:es.length≤8:=by have:=h.l8;simpa [kL] using this
 refine ⟨CkN.of ⟨(Srt.app.1 hs').2.1,by simp;omega,fun x hx=> ?_,fun _ q=>by have q:es.drop 4=[]:=q;rw[q] at h4;simp at h4⟩ (fun v hv=> ?_),(Srt.app.1 hs').2.1⟩
 ·exact h.k x.1 (List.mem_map_of_mem (List.mem_of_mem_drop hx))
 ·obtain ⟨x,hx,rfl⟩:=List.mem_map.1 hv
  have:=h.v (x.2:Int) (List.mem_map.2 ⟨x,List.mem_of_mem_drop hx,rfl⟩)
  omega
theorem Wj {es:List E} (hs:Srt es) (h8:es.length=8) {key:Int} {val:Nat} (hno:¬ Cy key es) (h:nx (es.drop 4) 0≤key):putE key val es=es.take 4++putE key val (es.drop 4)∧4≤(putE key val (es.drop 4)).length∧(putE key val (es.drop 4)).length≤5:=by
 obtain ⟨a,b,e,_,_,b4,b5,hu,_⟩:=MY (v:=val) hs h8 hno
 obtain ⟨rfl,rfl⟩:=hu h
 exact ⟨e,b4,b5⟩
theorem Wk {es:List E} (hs:Srt es) (h8:es.length=8) {key:Int} {val:Nat} (hno:¬ Cy key es) (h:key<nx (es.drop 4) 0):putE key val es=putE key val (es.take 4)++es.drop 4∧4≤(putE key val (es.take 4)).length∧(putE key val (es.take 4)).length≤5:=by
 obtain ⟨a,b,e,a4,a5,_,_,_,hd⟩:=MY (v:=val) hs h8 hno
 obtain ⟨rfl,rfl⟩:=hd h
 exact ⟨e,a4,a5⟩
theorem X7 (pp mb n:Nat) (o:TB) (t:TS) (Q:List Nat) (a:Nat) (lf:Bool) (kv vv:Value) (es:List E) (A B:Ae) (hA:∀ h,A h→rdH 1 kv (kL es).length ((kL es).map Iv_) h) (hB:∀ h,B h→rdH 1 vv (vL es).length ((vL es).map Iv_) h) (key:Int) (val:Nat) (hkv:(0≤key∧key<1048576)∧1≤val∧val<1024) (hck:CkN lf (kL es) (vL es)) (hs:Srt es) (h:Nat) (lo hi:Int) (m:Nat) (L:List E) (hBd:Bd t.N h (putE key val es) hi L) (hlf:lf=decide (h=0)) (hrg:Bx lo hi (putE key val es)) (hdup:(vals (putE key val es)).Nodup) (hC:t.C a=1) (hN:t.N a=none) (hk:t.k<39) (hm:m≤(putE key val es).length) (hok2:(Nd.mk lf (putE key val es)).Ok) (hfit:Cy key es∨es.length<8):Cn prog 89 [Pt_ pp,Iv_ (a:Int),.agg #[.bool lf,kv,vv],Iv_ key,Iv_ (val:Int)] [trA Tb pp mb n o (some (t,a::(vals (putE key val es)++Q))),A,B] (fun v Γ=>∃ t2:TS,(St t t2 Q 0 1∧Tr t2.N h a lo hi m L)∧v= .tuple #[.agg #[Iv_ (a:Int),Iv_ 0,Iv_ 0],Iv_ 0]∧Γ=[trA Tb pp mb n o (some (t2,a::Q)),A,B]):=by
 intro z R w H;replace H:=H.l3;obtain ⟨ka,kc,rfl⟩:=H.says 1 rfl (fun h q=>(hA h q).slc);obtain ⟨va,vc,rfl⟩:=H.says 2 rfl (fun h q=>(hB h q).slc);refine Ad func89 rfl ntmps89 rfl (Za 2 [] H rfl ?_);intro b1 w H;refine Za 0 [] H rfl ?_;intro b2 w H;refine Z2 8 [1,3] H rfl (Ax rfl (call132 _) (Ps hA hB hck hs key val hkv hfit) H.f4.f4 ?_);rintro _ w _ ⟨v3,v4,rfl,rfl⟩ H;replace H:=H.l7;have sv3:=H.says 0 rfl (fun h q=>q.slc)
 have sv4:=H.says 1 rfl (fun h q=>q.slc)
 refine Za 3 [] H rfl ?_;intro b5 w H;refine AB rfl rfl (Ai 0 H rfl rfl rfl rfl (vs:=[.bool lf,v3,v4]) rfl (Ac rfl (Ac sv3.one (Ac sv4.one Au))) (by kernel_rfl) (by simp) (out:=[.bool lf,v3,v4]) rfl) ?_;rintro w H;replace H:=H.l8;refine Z2 18 [3,0,3] H rfl (Ax rfl (call90 _) (E2 pp mb n o t Q a lf _ _ (putE key val es) _ _ (fun h q=>q.rd) (fun h q=>q.rd) h lo hi m L hBd hlf hrg hm hok2 hdup hC hN (by omega)) H.f2.f2.f7 ?_);rintro _ w _ ⟨t2,⟨hSt2,hT2,hC2,hN2⟩,rfl,rfl⟩ H;refine Z4 5 [6] H rfl ?_;intro w H;refine Zl [6,3] H rfl ?_;exact ⟨_,⟨t2,⟨hSt2,hT2⟩,rfl,rfl⟩,H.perm 8 [0,4,5] rfl rfl⟩
set_option maxHeartbeats 2000000 in
theorem X8 (pp mb n:Nat) (o:TB) (t:TS) (Q:List Nat) (a:Nat) (lf:Bool) (kv vv:Value) (es:List E) (A B:Ae) (hA:∀ h,A h→rdH 1 kv (kL es).length ((kL es).map Iv_) h) (hB:∀ h,B h→rdH 1 vv (vL es).length ((vL es).map Iv_) h) (key:Int) (val:Nat) (hkv:(0≤key∧key<1048576)∧1≤val∧val<1024) (hck:CkN lf (kL es) (vL es)) (hs:Srt es) (h:Nat) (lo hi:Int) (m:Nat) (L:List E) (hBd:Bd t.N h (putE key val es) hi L) (hlf:lf=decide (h=0)) (hrg:Bx lo hi (putE key val es)) (hdup:(vals (putE key val es)).Nodup) (hC:t.C a=1) (hN:t.N a=none) (hk:t.k<39) (hkr:∀ e∈putE key val es,0≤e.1∧e.1<1048576) (hno:¬ Cy key es) (h8:es.length=8):Cn prog 89 [Pt_ pp,Iv_ (a:Int),.agg #[.bool lf,kv,vv],Iv_ key,Iv_ (val:Int)] [trA Tb pp mb n o (some (t,a::(vals (putE key val es)++Q))),A,B] (fun v Γ=>(cnt t.F 0 1024=0∧∃ s:TS×List Nat,v= .tuple #[.agg #[Iv_ 0,Iv_ 0,Iv_ 0],Iv_ 20]∧Γ=[trA Tb pp mb n o (some s),A,B])∨∃ (t2:TS) (kr:Int) (r:Nat) (L1 L2:List E),(St t t2 Q 1 2∧L=L1++L2∧lo<kr∧kr<hi∧Tr t2.N h a lo kr 4 L1∧Tr t2.N h r kr hi 4 L2)∧v= .tuple #[.agg #[Iv_ (a:Int),Iv_ kr,Iv_ (r:Int)],Iv_ 0]∧Γ=[trA Tb pp mb n o (some (t2,a::r::Q)),A,B]):=by
 intro z R w H;replace H:=H.l3;obtain ⟨ka,kc,rfl⟩:=H.says 1 rfl (fun h q=>(hA h q).slc);obtain ⟨va,vc,rfl⟩:=H.says 2 rfl (fun h q=>(hB h q).slc);refine Ad func89 rfl ntmps89 rfl (Za 2 [] H rfl ?_);intro b1 w H;refine Za 0 [] H rfl ?_;intro b2 w H;refine Z2 8 [1,3] H rfl (z_E_ rfl (call132 _) (X4 hA hB hck hs key val hkv hno h8) H.f4.f4 ?_);intro w H;refine Za 3 [] H rfl ?_;intro b3 w H;refine Z4 27 [0,4,4,4,3] H rfl ?_;intro w H;refine Ax rfl (call133 _) (Wh hA hB hck h8) H.f2.f2 ?_;rintro _ w _ ⟨v4,v5,v6,v7,rfl,rfl⟩ H;replace H:=H.l10;have sv4:=H.says 0 rfl (fun h q=>q.slc)
 have sv5:=H.says 1 rfl (fun h q=>q.slc)
 have sv6:=H.says 2 rfl (fun h q=>q.slc)
 have sv7:=H.says 3 rfl (fun h q=>q.slc)
 refine Za 4 [] H rfl ?_;intro b8 w H;refine Za 0 [] H rfl ?_;intro b9 w H;refine AB rfl rfl (Ai 1 H rfl rfl rfl rfl (vs:=[.bool lf,v4,v5]) rfl (Ac rfl (Ac sv4.one (Ac sv5.one Au))) (by kernel_rfl) (by simp) (out:=[.bool lf,v4,v5]) rfl) ?_;rintro w H;replace H:=H.l12;refine AB rfl rfl (Ai 0 H rfl rfl rfl rfl (vs:=[.bool lf,v6,v7]) rfl (Ac rfl (Ac sv6.one (Ac sv7.one Au))) (by kernel_rfl) (by simp) (out:=[.bool lf,v6,v7]) rfl) ?_;rintro w H;replace H:=H.l12;refine Z0 15 [4] rfl ?_;obtain ⟨ak,cc10,rfl⟩:=sv6;have hatak:=(H.rd 4 rfl (fun h q=>q.rd)).at (j:=0) (u:=Iv_ (nx (es.drop 4) 0)) (by rw[List.getElem?_map,EJ (by rw[List.length_drop];omega)];rfl)
 refine Z2 4 [1,0,0] H rfl (Ab rfl (Aj rfl (z:=1) (j:=0) (r:=0) (by kernel_rfl) rfl rfl rfl (by simp only[List.length_map,List.length_drop];omega) hatak (by omega)) (Ab rfl (Av rfl rfl (by kernel_rfl) (Aq hatak)) (Z0 3 [0] rfl (Af rfl (fun h1=> ?_) (fun h1=> ?_)))))
 ·obtain ⟨hup,hl4,hl5⟩:=Wj (val:=val) hs h8 hno h1;refine Z2 4 [0,3] H rfl (Ax rfl (call132 _) (Ps (fun h q=>q.rd) (fun h q=>q.rd) (Oz hck hs (by simp;omega)).1 (Oz hck hs (by simp;omega)).2 key val hkv (.inr (by simp;omega))) H.f5.f5 ?_);rintro _ w _ ⟨v11,v12,rfl,rfl⟩ H;replace H:=H.l14;have sv11:=H.says 0 rfl (fun h q=>q.slc)
  have sv12:=H.says 1 rfl (fun h q=>q.slc)
  refine Zc 3 rfl (AB rfl rfl (Ai 4 H rfl rfl rfl rfl (vs:=[.bool lf,v11,v12]) rfl (Ac rfl (Ac sv11.one (Ac sv12.one Au))) (by kernel_rfl) (by simp) (out:=[.bool lf,v11,v12]) rfl) ?_);rintro w H;replace H:=H.l14;refine Z0 14 [4] rfl ?_;obtain ⟨L1,L2,hL,⟨hB1,hB2⟩,⟨hr1,hr2,hlo,hhi⟩,⟨hk1,hk2⟩,hd1,hd2⟩:=JK (lf:=lf) hs hBd hrg hkr hdup hup (by simp;omega) (by simp;omega) hl4 hl5;replace H:=(H.mono 13 (B:=trA Tb pp mb n o (some (t,vals (putE key val (es.drop 4))++(a::(vals (es.take 4)++Q))))) rfl (fun h q=>q.perm (by rw[hup];exact KX a _ _ Q))).l14
  refine Z2 3 [4,3] H rfl (Ax rfl (call46 _) (GG pp mb n o t (a::(vals (es.take 4)++Q)) lf _ _ (putE key val (es.drop 4)) _ _ (fun h q=>q.rd) (fun h q=>q.rd) h (nx (putE key val (es.drop 4)) hi) hi 4 L2 hB2 hlf hr2 hl4 hk2 hd2 (by omega)) H.f1.f1.f13 ?_);rintro _ w _ (⟨hnone,rfl,rfl⟩|⟨t1,r,⟨hSt1,hT1,hq1⟩,rfl,rfl⟩) H'
  ·have H:=H'.l14;refine Z4 24 [3,12] H rfl ?_;intro w H;refine Zl [12,3] H rfl ?_;exact ⟨_,.inl ⟨hnone,_,rfl,rfl⟩,H.perm 14 [0,9,10] rfl rfl⟩
  ·have H:=H'.l14;have hca:=hq1 a (by simp)
   refine Z0 18 [4] rfl ?_;obtain ⟨bk,cc13,rfl⟩:=sv11;have hatbk:=(H.rd 1 rfl (fun h q=>q.rd)).at (j:=0) (u:=Iv_ (nx (putE key val (es.drop 4)) hi)) (by rw[List.getElem?_map,EJ hl4];rfl)
   replace H:=(H.mono 0 (B:=trA Tb pp mb n o (some (t1,a::(vals (es.take 4)++(r::Q))))) rfl (fun h q=>q.perm (KY r a _ Q))).l14
   replace H:=H.f1.f5.f6;refine AI (Sep z (blk b8 [.bool lf,v4,v5] 54::blk b9 [.bool lf,.slice bk ((kL (putE key val (es.drop 4))).length) cc13,v12] 54::grow 3 1 (.slice bk ((kL (putE key val (es.drop 4))).length) cc13) ((kL (putE key val (es.drop 4))).length) ((kL (putE key val (es.drop 4))).map Iv_)::R)) 13 rfl (by kernel_rfl) (A9 H fun w H'=> ?_)
   have H:=H'.l14;refine AN [0,1,2] [1,1,0] [] (by exact (H.pick 14 [0,1,2] rfl)) rfl (by kernel_rfl) rfl (BC 3 rfl (by kernel_rfl) (by kernel_rfl) (by kernel_rfl) rfl rfl rfl (Aj rfl (z:=1) (j:=0) (r:=0) (by kernel_rfl) rfl rfl rfl (by simp only[List.length_map];first|omega|(rw[List.length_drop];omega)) hatbk (by omega)) (H.pick 14 [0,1,2] rfl) (BC 4 rfl (by kernel_rfl) (by kernel_rfl) (by kernel_rfl) rfl rfl rfl (Av rfl rfl (by kernel_rfl) (fun _ hx'=>(hx'.rd 2 rfl (fun h q=>q.rd)).at (j:=0) (u:=Iv_ (nx (putE key val (es.drop 4)) hi)) (by rw[List.getElem?_map,EJ hl4];rfl))) (H.pick 14 [0,1,2] rfl) ?_));refine AN [5,6,7,8,9] [0,3] [] (by exact (H.pick 14 [0,1,2] rfl)) rfl (by kernel_rfl) rfl (Az [10] (by kernel_rfl) (by simp) (Ay (BH rfl rfl rfl rfl rfl rfl (fun w=>call90 _ w) (E2 pp mb n o t1 (r::Q) a lf _ _ (es.take 4) _ _ (fun h q=>q.rd) (fun h q=>q.rd) h lo (nx (putE key val (es.drop 4)) hi) 4 L1 (hSt1.bd (fun v hv=>by simp[hv]) hB1) hlf hr1 (by simp;omega) hk1 hd1 (hca.2.trans hC) (hca.1.trans hN) (by have:=hSt1.k;omega)) H.f8.f8.f5 rfl ?_)));rintro _ w _ ⟨t2,⟨hSt2,hT2,hC2,hN2⟩,rfl,rfl⟩ H;replace H:=H.l14;refine Ap (H.pick 14 [3,4,5] rfl) (Az [11] (by kernel_rfl) (by simp) (Ay (Bp rfl rfl rfl (Ai 12 H rfl rfl rfl rfl (vs:=[Iv_ (a:Int),Iv_ (nx (putE key val (es.drop 4)) hi),Iv_ (r:Int)]) rfl (by simp[u8,u32,Value.oneCell']) (by kernel_rfl) (by simp) (out:=[Iv_ (a:Int),Iv_ (nx (putE key val (es.drop 4)) hi),Iv_ (r:Int)]) rfl) ?_)))
   rintro w H;replace H:=H.l14;refine Ap (H.pick 14 [3,4,5] rfl) (AN [12] [] [] (by exact (H.pick 14 [3,4,5] rfl)) rfl (by kernel_rfl) rfl (a_done (by kernel_rfl) (gn (Zc 2 rfl (Zl [12,3] H rfl ?_)))));exact ⟨_,.inr ⟨t2,nx (putE key val (es.drop 4)) hi,r,L1,L2,⟨(Iq hSt1 hT1 hSt2).1,hL,hlo,hhi,hT2,(Iq hSt1 hT1 hSt2).2⟩,rfl,rfl⟩,H.perm 14 [0,9,10] rfl rfl⟩
 ·obtain ⟨hdn,hl4,hl5⟩:=Wk (val:=val) hs h8 hno (by omega);refine Z2 4 [1,3] H rfl (Ax rfl (call132 _) (Ps (fun h q=>q.rd) (fun h q=>q.rd) (Oy hck hs (by simp;omega)).1 (Oy hck hs (by simp;omega)).2 key val hkv (.inr (by simp;omega))) H.f3.f3 ?_);rintro _ w _ ⟨v14,v15,rfl,rfl⟩ H;replace H:=H.l14;have sv14:=H.says 0 rfl (fun h q=>q.slc)
  have sv15:=H.says 1 rfl (fun h q=>q.slc)
  refine Zc 3 rfl (AB rfl rfl (Ai 5 H rfl rfl rfl rfl (vs:=[.bool lf,v14,v15]) rfl (Ac rfl (Ac sv14.one (Ac sv15.one Au))) (by kernel_rfl) (by simp) (out:=[.bool lf,v14,v15]) rfl) ?_);rintro w H;replace H:=H.l14;refine Z0 14 [4] rfl ?_;obtain ⟨L1,L2,hL,⟨hB1,hB2⟩,⟨hr1,hr2,hlo,hhi⟩,⟨hk1,hk2⟩,hd1,hd2⟩:=JK (lf:=lf) hs hBd hrg hkr hdup hdn hl4 hl5 (by simp;omega) (by simp;omega);replace H:=(H.mono 13 (B:=trA Tb pp mb n o (some (t,vals (es.drop 4)++(a::(vals (putE key val (es.take 4))++Q))))) rfl (fun h q=>q.perm (by rw[hdn];exact KX a _ _ Q))).l14
  refine Z2 3 [4,3] H rfl (Ax rfl (call46 _) (GG pp mb n o t (a::(vals (putE key val (es.take 4))++Q)) lf _ _ (es.drop 4) _ _ (fun h q=>q.rd) (fun h q=>q.rd) h (nx (es.drop 4) hi) hi 4 L2 hB2 hlf hr2 (by simp;omega) hk2 hd2 (by omega)) H.f7.f7.f13 ?_);rintro _ w _ (⟨hnone,rfl,rfl⟩|⟨t1,r,⟨hSt1,hT1,hq1⟩,rfl,rfl⟩) H'
  ·have H:=H'.l14;refine Z4 24 [3,12] H rfl ?_;intro w H;refine Zl [12,3] H rfl ?_;exact ⟨_,.inl ⟨hnone,_,rfl,rfl⟩,H.perm 14 [0,9,10] rfl rfl⟩
  ·have H:=H'.l14;have hca:=hq1 a (by simp)
   refine Z0 18 [4] rfl ?_;have hatbk:=(H.rd 1 rfl (fun h q=>q.rd)).at (j:=0) (u:=Iv_ (nx (es.drop 4) hi)) (by rw[List.getElem?_map,EJ (by simp;omega)];rfl)
   replace H:=(H.mono 0 (B:=trA Tb pp mb n o (some (t1,a::(vals (putE key val (es.take 4))++(r::Q))))) rfl (fun h q=>q.perm (KY r a _ Q))).l14
   replace H:=H.f1.f7.f8;refine AI (Sep z (blk b8 [.bool lf,v14,v15] 54::blk b9 [.bool lf,.slice ak ((kL (es.drop 4)).length) cc10,v7] 54::grow 3 1 (.slice ak ((kL (es.drop 4)).length) cc10) ((kL (es.drop 4)).length) ((kL (es.drop 4)).map Iv_)::R)) 13 rfl (by kernel_rfl) (A9 H fun w H'=> ?_)
   have H:=H'.l14;refine AN [0,1,2] [1,1,0] [] (by exact (H.pick 14 [0,1,2] rfl)) rfl (by kernel_rfl) rfl (BC 3 rfl (by kernel_rfl) (by kernel_rfl) (by kernel_rfl) rfl rfl rfl (Aj rfl (z:=1) (j:=0) (r:=0) (by kernel_rfl) rfl rfl rfl (by simp only[List.length_map];first|omega|(rw[List.length_drop];omega)) hatak (by omega)) (H.pick 14 [0,1,2] rfl) (BC 4 rfl (by kernel_rfl) (by kernel_rfl) (by kernel_rfl) rfl rfl rfl (Av rfl rfl (by kernel_rfl) (fun _ hx'=>(hx'.rd 2 rfl (fun h q=>q.rd)).at (j:=0) (u:=Iv_ (nx (es.drop 4) hi)) (by rw[List.getElem?_map,EJ (by simp;omega)];rfl))) (H.pick 14 [0,1,2] rfl) ?_));refine AN [5,6,7,8,9] [0,3] [] (by exact (H.pick 14 [0,1,2] rfl)) rfl (by kernel_rfl) rfl (Az [10] (by kernel_rfl) (by simp) (Ay (BH rfl rfl rfl rfl rfl rfl (fun w=>call90 _ w) (E2 pp mb n o t1 (r::Q) a lf _ _ (putE key val (es.take 4)) _ _ (fun h q=>q.rd) (fun h q=>q.rd) h lo (nx (es.drop 4) hi) 4 L1 (hSt1.bd (fun v hv=>by simp[hv]) hB1) hlf hr1 hl4 hk1 hd1 (hca.2.trans hC) (hca.1.trans hN) (by have:=hSt1.k;omega)) H.f6.f6.f5 rfl ?_)));rintro _ w _ ⟨t2,⟨hSt2,hT2,hC2,hN2⟩,rfl,rfl⟩ H;replace H:=H.l14;refine Ap (H.pick 14 [3,4,5] rfl) (Az [11] (by kernel_rfl) (by simp) (Ay (Bp rfl rfl rfl (Ai 12 H rfl rfl rfl rfl (vs:=[Iv_ (a:Int),Iv_ (nx (es.drop 4) hi),Iv_ (r:Int)]) rfl (by simp[u8,u32,Value.oneCell']) (by kernel_rfl) (by simp) (out:=[Iv_ (a:Int),Iv_ (nx (es.drop 4) hi),Iv_ (r:Int)]) rfl) ?_)))
   rintro w H;replace H:=H.l14;refine Ap (H.pick 14 [3,4,5] rfl) (AN [12] [] [] (by exact (H.pick 14 [3,4,5] rfl)) rfl (by kernel_rfl) rfl (a_done (by kernel_rfl) (gn (Zc 2 rfl (Zl [12,3] H rfl ?_)))));exact ⟨_,.inr ⟨t2,nx (es.drop 4) hi,r,L1,L2,⟨(Iq hSt1 hT1 hSt2).1,hL,hlo,hhi,hT2,(Iq hSt1 hT1 hSt2).2⟩,rfl,rfl⟩,H.perm 14 [0,9,10] rfl rfl⟩
end
section
open Go.RowKit
variable {Tb:Ae}
theorem Bm (X Y:List E):vals (X++Y)=vals X++vals Y:=by simp[vals]
theorem BE (e:E) (Y:List E):vals (e::Y)=e.2::vals Y:=rfl
theorem Wl (key:Int) (val:Nat) (es:List E):putE key val es≠[]:=by
 cases es with
 | nil=>simp[putE]
 | cons e t=>simp only[putE];split;simp;split<;>simp
theorem Gb {es:List E} (hs:Srt es) {key:Int} (val:Nat) (hno:¬ Cy key es):(vals (putE key val es)).Perm (val::vals es)∧(putE key val es).length=es.length+1:=by
 rcases key_split hs key with ⟨X,v,Y,rfl,_⟩|⟨_,X,Y,rfl,h1,h2⟩
 ·exact absurd ⟨v,by simp⟩ hno
 ·rw[putE_new h1 h2,Bm,Bm,BE]
  exact ⟨List.perm_middle,by simp;omega⟩
theorem I3 {es:List E} (hs:Srt es) (key:Int) (val:Nat):es.length≤(putE key val es).length∧(putE key val es).length≤es.length+1:=by
 rcases key_split hs key with ⟨X,v,Y,rfl,h1⟩|⟨h0,X,Y,e,h1,h2⟩
 ·rw[DB _ h1];simp
 ·have:=(Gb hs val h0).2;omega
theorem M6 {es:List E} (hs:Srt es) {lo hi key:Int} (val:Nat) (hr:Bx lo hi es) (hk:lo≤key∧key<hi):Bx lo hi (putE key val es):=fun x hx=>by
 rcases (putE_mem hs x).1 hx with rfl|⟨h,_⟩
 ·exact hk
 ·exact hr x h
theorem Tr.ne {N:Hm} {h r:Nat} {lo hi:Int} {m:Nat} {L:List E} (t:Tr N h r lo hi m L) (hm:1≤m):L≠[]:=by
 induction h generalizing r lo hi m L with
 | zero=>
  obtain ⟨es,_,h2,_,_,rfl,_⟩:=t
  intro q;rw[q] at h2;simp at h2;omega
 | succ h ih=>
  obtain ⟨es,_,h2,_,_,h5⟩:=t
  cases es with
  | nil=>simp at h2;omega
  | cons e t=>
   obtain ⟨L1,L2,rfl,h6,_⟩:=h5
   intro q
   exact ih h6 (by omega) (List.append_eq_nil_iff.1 q).1
theorem Sq.nodup {N:Hm} {h:Nat} {es:List E} {hi:Int} {L:List E} (q:Sq (fun c a b L=>Tr N h c a b 4 L) es hi L) (hs:Srt es) (hr:∀ e∈es,e.1<hi):(vals es).Nodup:=by
 induction es generalizing L with
 | nil=>simp[vals]
 | cons e t ih=>
  obtain ⟨L1,L2,rfl,h1,h2⟩:=q
  obtain ⟨s1,s2⟩:=Srt.cons.1 hs
  have hr2:∀ x∈t,x.1<hi:=fun x hx=>hr x (by simp[hx])
  rw[BE,List.nodup_cons]
  refine ⟨fun hm=> ?_,ih h2 s2 hr2⟩
  obtain ⟨x,hx,hxe⟩:=List.mem_map.1 hm
  obtain ⟨A,B,rfl⟩:=List.append_of_mem hx
  obtain ⟨_,Lc,_,_,_,h3,_⟩:=Sq.at h2
  rw[hxe] at h3
  obtain ⟨_,rfl⟩:=h1.uniq h3
  have hne:=h1.ne (by omega)
  obtain ⟨y,u,rfl⟩:=List.exists_cons_of_ne_nil hne
  have a1:=h1.srt.2 y (by simp)
  have a2:=h3.srt.2 y (by simp)
  have a3:nx (A++x::B) hi≤x.1:=by
   cases A with
   | nil=>exact Int.le_refl _
   | cons z A=>exact Int.le_of_lt ((Srt.cons.1 s2).1 x (by simp))
  omega
theorem Bd.nodup {N:Hm} {h:Nat} {es:List E} {hi:Int} {L:List E} (q:Bd N (h+1) es hi L) (hs:Srt es) (hr:∀ e∈es,e.1<hi):(vals es).Nodup:=Sq.nodup q hs hr
theorem X9 {N:Hm} {h:Nat} {lo hi:Int} {L X Y:List E} {e:E} {key:Int} (val:Nat) (hs:Srt (X++e::Y)) (hr:Bx lo hi (X++e::Y)) (hB:Bd N (h+1) (X++e::Y) hi L) (hX:X=[]∨e.1≤key) (hY:∀ x∈Y,key<x.1∧e.1<x.1) (hk:lo≤key∧key<hi):
  ∃ L0 Lc L2,(Sq (fun c a b L=>Tr N h c a b 4 L) X (min e.1 key) L0∧Tr N h e.2 (min e.1 key) (nx Y hi) 4 Lc∧Sq (fun c a b L=>Tr N h c a b 4 L) Y hi L2)∧L=L0++(Lc++L2)∧putE key val L=L0++(putE key val Lc++L2)∧(lo≤min e.1 key∧min e.1 key≤key∧key<nx Y hi∧nx Y hi≤hi):=by
 obtain ⟨L0,Lc,L2,rfl,h1,h2,h3⟩:=Sq.at hB
 have he:=hr e (by simp)
 have hn:=Uh (fun x hx=>(hY x hx).1) hk.2
 have hn2:nx Y hi≤hi:=Pr (fun x hx=>(hr x (by simp[hx])).2)
 obtain ⟨s1,s2⟩:=Sq.sides hs (fun x hx=>(hr x hx).2) h1 h3 hX (fun x hx=>(hY x hx).1) hk.2
 refine ⟨L0,Lc,L2,⟨h1.nilK ?_,h2.mono (by omega) (Int.le_refl _) (Nat.le_refl _),h3⟩,rfl,?_,by omega,by omega,hn,hn2⟩
 ·rcases hX with q|q
  ·exact .inl q
  ·exact .inr (by omega)
 ·rw[putE_lt _ s1,Or _ s2]
theorem I4 {lo hi:Int} {X Y:List E} {e:E} {k1:Int} (c:Nat) (hs:Srt (X++e::Y)) (hr:Bx lo hi (X++e::Y)) (hX:X=[]∨k1=e.1) (hk:k1≤e.1) (hlo:lo≤k1):Srt (X++(k1,c)::Y)∧Bx lo hi (X++(k1,c)::Y):=by
 obtain ⟨s1,s2,s3⟩:=Srt.app.1 hs
 obtain ⟨s4,s5⟩:=Srt.cons.1 s2
 refine ⟨Srt.app.2 ⟨s1,Srt.cons.2 ⟨fun x hx=>by have:=s4 x hx;dsimp only;omega,s5⟩,fun a ha b hb=> ?_⟩,fun x hx=> ?_⟩
 ·rcases List.mem_cons.1 hb with rfl|hb
  ·rcases hX with rfl|rfl
   ·simp at ha
   ·exact s3 a ha e (by simp)
  ·exact s3 a ha b (by simp[hb])
 ·rcases List.mem_append.1 hx with hx|hx
  ·exact hr x (by simp[hx])
  ·rcases List.mem_cons.1 hx with rfl|hx
   ·have:=hr e (by simp);dsimp only;omega
   ·exact hr x (by simp[hx])
theorem Tv {lo hi:Int} {X Y:List E} {k1 kr:Int} {c r:Nat} (hs:Srt (X++(k1,c)::Y)) (hk:k1<kr) (hn:kr<nx Y hi) (hr:Bx lo hi (X++(k1,c)::Y)) (hhi:nx Y hi≤hi):putE kr r (X++(k1,c)::Y)=X++(k1,c)::(kr,r)::Y∧¬ Cy kr (X++(k1,c)::Y)∧lo≤kr∧kr<hi:=by
 obtain ⟨s1,s2,s3⟩:=Srt.app.1 hs
 obtain ⟨s4,s5⟩:=Srt.cons.1 s2
 have h1:∀ x∈X++[(k1,c)],x.1<kr:=fun x hx=>by
  rcases List.mem_append.1 hx with hx|hx
  ·have:=s3 x hx (k1,c) (by simp);dsimp only at this;omega
  ·simp at hx;subst hx;exact hk
 have h2:∀ x∈Y,kr<x.1:=fun x hx=>by
  cases Y with
  | nil=>simp at hx
  | cons y t=>
   simp only[nx] at hn
   rcases List.mem_cons.1 hx with rfl|hx
   ·exact hn
   ·have:=(Srt.cons.1 s5).1 x hx;omega
 have e:X++(k1,c)::Y=(X++[(k1,c)])++Y:=by simp
 refine ⟨by rw[e,putE_new h1 h2];simp,?_,by have:=(hr (k1,c) (by simp)).1;dsimp only at this;omega,by omega⟩
 rintro ⟨v,hv⟩
 rw[e] at hv
 rcases List.mem_append.1 hv with hv|hv
 ·have:=h1 _ hv;dsimp only at this;omega
 ·have:=h2 _ hv;dsimp only at this;omega
theorem Le {es:List E} (hs:Srt es) {key:Int} {val c:Nat} {Q:List Nat} (hno:¬ Cy key es):(c::(vals es++(val::Q))).Perm (c::(vals (putE key val es)++Q)):=
 List.Perm.cons _ (List.perm_middle.trans (List.Perm.append_right Q (Gb hs val hno).1.symm))
theorem Lf {X Y:List E} {key:Int} {val v0 c:Nat} {Q:List Nat} (h:∀ e∈X,e.1<key):(c::(vals (X++(key,v0)::Y)++(val::Q))).Perm (v0::(c::(vals (putE key val (X++(key,v0)::Y))++Q))):=by
 rw[DB _ h,Bm,Bm,BE,BE]
 have h1:(vals X++v0::vals Y++val::Q).Perm (v0::(vals X++vals Y++val::Q)):=by
  have:(vals X++v0::vals Y).Perm (v0::(vals X++vals Y)):=List.perm_middle
  exact List.Perm.append_right _ this
 have h2:(vals X++vals Y++val::Q).Perm (vals X++val::vals Y++Q):=by
  have a:(vals X++vals Y++val::Q).Perm (val::(vals X++vals Y++Q)):=List.perm_middle
  have b:(vals X++val::vals Y++Q).Perm (val::(vals X++vals Y++Q)):=List.Perm.append_right Q List.perm_middle
  exact a.trans b.symm
 exact ((List.Perm.cons c h1).trans (List.Perm.swap _ _ _)).trans (List.Perm.cons _ (List.Perm.cons _ h2))
theorem Wm {X Y:List E} {e:E} {c val:Nat} {Q:List Nat} :(c::(vals (X++e::Y)++(val::Q))).Perm (e.2::val::(c::(vals X++(vals Y++Q)))):=by
 rw[Bm,BE]
 have h1:(vals X++e.2::vals Y++val::Q).Perm (e.2::val::(vals X++(vals Y++Q))):=by
  have a:(vals X++e.2::vals Y++val::Q).Perm (e.2::(vals X++vals Y++val::Q)):=List.Perm.append_right (val::Q) List.perm_middle
  have b:(vals X++vals Y++val::Q).Perm (val::(vals X++vals Y++Q)):=List.perm_middle
  rw[←List.append_assoc]
  exact a.trans (List.Perm.cons _ b)
 exact (List.Perm.cons c h1).trans ((List.Perm.swap _ _ _).trans (List.Perm.cons _ (List.Perm.swap _ _ _)))
theorem M7 {X Y:List E} {k1:Int} {c c2:Nat} {Q:List Nat} :(c2::(c::(vals X++(vals Y++Q)))).Perm (c::(vals (X++(k1,c2)::Y)++Q)):=by
 rw[Bm,BE]
 refine (List.Perm.swap _ _ _).trans (List.Perm.cons _ ?_)
 have:(vals X++c2::vals Y++Q).Perm (c2::(vals X++vals Y++Q)):=List.Perm.append_right Q List.perm_middle
 rw[←List.append_assoc]
 exact this.symm
theorem Q8 {X Y:List E} {k1 kr:Int} {c c2 r:Nat} {Q:List Nat} :(c2::r::(c::(vals X++(vals Y++Q)))).Perm (c::(vals (X++(k1,c2)::(kr,r)::Y)++Q)):=by
 have h1:(r::(c::(vals X++(vals Y++Q)))).Perm (c::(vals (X++(kr,r)::Y)++Q)):=M7
 refine (List.Perm.cons c2 h1).trans ((List.Perm.swap _ _ _).trans (List.Perm.cons _ ?_))
 rw[Bm,Bm,BE,BE,BE]
 have:(vals X++c2::(r::vals Y)++Q).Perm (c2::(vals X++(r::vals Y)++Q)):=List.Perm.append_right Q List.perm_middle
 exact this.symm
theorem Tw {N:Hm} {es:List E} {lo hi:Int} {key:Int} {val:Nat} {b:List UInt8} (hs:Srt es) (hr:Bx lo hi es) (hk:lo≤key∧key<hi) (h:∀ e∈es,∃ b,N e.2=some (.dt b)) (hv:N val=some (.dt b)) (hnd:(vals es).Nodup) (hnv:val∉vals es):
  Bd N 0 (putE key val es) hi (putE key val es)∧Bx lo hi (putE key val es)∧(vals (putE key val es)).Nodup:=by
 refine ⟨⟨rfl,fun e he=> ?_⟩,M6 hs val hr hk,?_⟩
 ·rcases (putE_mem hs e).1 he with rfl|⟨h1,_⟩
  ·exact ⟨b,hv⟩
  ·exact h e h1
 ·rcases key_split hs key with ⟨X,v,Y,rfl,h1⟩|⟨h0,X,Y,rfl,h1,h2⟩
  ·rw[DB _ h1,Bm,BE]
   rw[Bm,BE] at hnd hnv
   simp only[List.mem_append,List.mem_cons,not_or] at hnv
   have h3:(val::(vals X++vals Y)).Nodup:=List.nodup_cons.2 ⟨by simp[hnv.1,hnv.2.2],(List.nodup_cons.1 (List.perm_middle.nodup_iff.1 hnd)).2⟩
   exact List.perm_middle.nodup_iff.2 h3
  ·exact (Gb hs val h0).1.nodup_iff.2 (List.nodup_cons.2 ⟨hnv,hnd⟩)
theorem Ir {lo hi:Int} {es:List E} (hr:Bx lo hi es) (h0:0≤lo) (h1:hi≤1048576):∀ e∈es,0≤e.1∧e.1<1048576:=fun e he=>by have:=hr e he;omega
theorem Pu (pp mb n:Nat) (o:TB) (t:TS) (Q:List Nat) (a:Nat) (lf:Bool) (kv vv:Value) (es:List E) (A B:Ae) (hA:Fk A kv es) (hB:Fl B vv es) (key:Int) (val:Nat) (hkv:(0≤key∧key<1048576)∧1≤val∧val<1024) (hck:CkN lf (kL es) (vL es)) (hs:Srt es) (h:Nat) (lo hi:Int) (m:Nat) (L:List E) (hBd:Bd t.N h (putE key val es) hi L) (hlf:lf=decide (h=0)) (hrg:Bx lo hi (putE key val es)) (hdup:(vals (putE key val es)).Nodup) (hC:t.C a=1) (hN:t.N a=none) (hk:t.k<39)
  (hm:m≤(putE key val es).length) (h0:0≤lo) (h1:hi≤1048576):
  Cn prog 89 [Pt_ pp,Iv_ (a:Int),CN lf kv vv,Iv_ key,Iv_ (val:Int)] [trA Tb pp mb n o (some (t,a::(vals (putE key val es)++Q))),A,B] (fun v Γ=>(cnt t.F 0 1024=0∧∃ s:TS×List Nat,v= .tuple #[.agg #[Iv_ 0,Iv_ 0,Iv_ 0],Iv_ 20]∧Γ=[trA Tb pp mb n o (some s),A,B])∨(∃ t2:TS,(St t t2 Q 1 2∧Tr t2.N h a lo hi m L)∧v= .tuple #[.agg #[Iv_ (a:Int),Iv_ 0,Iv_ 0],Iv_ 0]∧Γ=[trA Tb pp mb n o (some (t2,a::Q)),A,B])∨
   ∃ (t2:TS) (kr:Int) (r:Nat) (L1 L2:List E),(St t t2 Q 1 2∧L=L1++L2∧lo<kr∧kr<hi∧Tr t2.N h a lo kr 4 L1∧Tr t2.N h r kr hi 4 L2)∧v= .tuple #[.agg #[Iv_ (a:Int),Iv_ kr,Iv_ (r:Int)],Iv_ 0]∧Γ=[trA Tb pp mb n o (some (t2,a::r::Q)),A,B]):=by
 have hkr:=Ir hrg h0 h1
 have h8:es.length≤8:=by have:=hck.l8;simpa [kL] using this
 by_cases hf:Cy key es∨es.length<8
 ·have hl:(putE key val es).length≤8:=by
   rcases hf with q|q
   ·rcases key_split hs key with ⟨X,v,Y,rfl,h1⟩|⟨h0,_⟩
    ·rw[DB _ h1];simpa using h8
    ·exact absurd q h0
   ·have:=(I3 hs key val).2;omega
  refine Cn.mono (X7 pp mb n o t Q a lf kv vv es A B hA hB key val hkv hck hs h lo hi m L hBd hlf hrg hdup hC hN hk hm ⟨I1 hs,hl,hkr,fun _=>Wl _ _ _⟩ hf) ?_
  rintro v Γ ⟨t2,⟨a1,a2⟩,rfl,rfl⟩
  exact .inr (.inl ⟨t2,⟨a1.sub (fun _ q=>q) (by omega) (by omega),a2⟩,rfl,rfl⟩)
 ·simp only[not_or] at hf
  refine Cn.mono (X8 pp mb n o t Q a lf kv vv es A B hA hB key val hkv hck hs h lo hi m L hBd hlf hrg hdup hC hN hk hkr hf.1 (by omega)) ?_
  rintro v Γ (q|q)
  ·exact .inl q
  ·exact .inr (.inr q)
structure InsPre (n:Nat) (t:TS) (Q:List Nat) (a h:Nat) (lo hi:Int) (m:Nat) (key:Int) (val:Nat) (L:List E):Prop where
 T:Tr t.N h a lo hi m L
 kk:lo≤key∧key<hi
 l0:0≤lo
 h1:hi≤1048576
 dt:∃ b,t.N val=some (.dt b)
 nv:∀ q d,t.N q=some (.nd d)→val∉vals d.es
 hk:t.k+3 * h+3<40
 hb:Q.length+10 * h+12+n≤980
abbrev Is (Tb:Ae) (pp mb n:Nat) (o:TB) (t:TS) (Q:List Nat) (h:Nat) (lo hi:Int) (m:Nat) (key:Int) (val:Nat) (L:List E) (v:Value) (Γ:List Ae):Prop:=
 (cnt t.F 0 1024≤2 * h+1∧∃ s:TS×List Nat,v= .tuple #[.agg #[.int .i64 0,.int .i64 0,.int .i64 0],.int .i64 20]∧Γ=[trA Tb pp mb n o (some s)])∨
 (∃ (t2:TS) (c:Nat),(St t t2 Q (2 * h+2) (3 * h+3)∧Tr t2.N h c lo hi m (putE key val L))∧v= .tuple #[.agg #[.int .i64 (c:Int),.int .i64 0,.int .i64 0],.int .i64 0]∧Γ=[trA Tb pp mb n o (some (t2,c::Q))])∨
 ∃ (t2:TS) (c:Nat) (kr:Int) (r:Nat) (L1 L2:List E),(St t t2 Q (2 * h+2) (3 * h+3)∧putE key val L=L1++L2∧lo<kr∧kr<hi∧Tr t2.N h c lo kr 4 L1∧Tr t2.N h r kr hi 4 L2)∧v= .tuple #[.agg #[.int .i64 (c:Int),.int .i64 kr,.int .i64 (r:Int)],.int .i64 0]∧Γ=[trA Tb pp mb n o (some (t2,c::r::Q))]
variable {t1 t2:TS} {X Y Q':List E} {e:E} {Q:List Nat} {c c2 r h d1 d2:Nat} {lo hi key kr:Int} {L0 Lc L2 M1 M2:List E}
theorem KZ (S:St t1 t2 (c::(vals X++(vals Y++Q))) d1 d2) (hq0:Sq (fun c a b L=>Tr t1.N h c a b 4 L) X (min e.1 key) L0) (hq2:Sq (fun c a b L=>Tr t1.N h c a b 4 L) Y hi L2):Sq (fun c a b L=>Tr t2.N h c a b 4 L) X (min e.1 key) L0∧Sq (fun c a b L=>Tr t2.N h c a b 4 L) Y hi L2:=
 ⟨Sq.imp hq0 fun x hx _ _ q=>S.fr _ (by simp[List.mem_map_of_mem hx,vals]) _ _ _ _ _ q,Sq.imp hq2 fun x hx _ _ q=>S.fr _ (by simp[List.mem_map_of_mem hx,vals]) _ _ _ _ _ q⟩
theorem Wn (S:St t1 t2 (c::(vals X++(vals Y++Q))) d1 d2) (hq0:Sq (fun c a b L=>Tr t1.N h c a b 4 L) X (min e.1 key) L0) (hq2:Sq (fun c a b L=>Tr t1.N h c a b 4 L) Y hi L2) (hT:Tr t2.N h c2 (min e.1 key) (nx Y hi) 4 Lc) (hs:Srt (X++e::Y)) (hr:Bx lo hi (X++e::Y)) (hX:X=[]∨e.1≤key) (hlo:lo≤min e.1 key):
  Bd t2.N (h+1) (X++(min e.1 key,c2)::Y) hi (L0++(Lc++L2))∧(Srt (X++(min e.1 key,c2)::Y)∧Bx lo hi (X++(min e.1 key,c2)::Y))∧(vals (X++(min e.1 key,c2)::Y)).Nodup:=by
 obtain ⟨a,b⟩:=KZ S hq0 hq2
 have hn:=I4 c2 hs hr (k1:=min e.1 key) (hX.imp id (fun q=>by omega)) (by omega) hlo
 have hB:Bd t2.N (h+1) (X++(min e.1 key,c2)::Y) hi (L0++(Lc++L2)):=Sq.mk a hT b
 exact ⟨hB,hn,hB.nodup hn.1 (fun x hx=>(hn.2 x hx).2)⟩
theorem Wo (S:St t1 t2 (c::(vals X++(vals Y++Q))) d1 d2) (hq0:Sq (fun c a b L=>Tr t1.N h c a b 4 L) X (min e.1 key) L0) (hq2:Sq (fun c a b L=>Tr t1.N h c a b 4 L) Y hi L2) (hT:Tr t2.N h c2 (min e.1 key) kr 4 M1) (hT2:Tr t2.N h r kr (nx Y hi) 4 M2) (hs:Srt (X++e::Y)) (hr:Bx lo hi (X++e::Y)) (hX:X=[]∨e.1≤key) (hlo:lo≤min e.1 key) (hk1:min e.1 key<kr) (hk2:kr<nx Y hi) (hhi:nx Y hi≤hi):
  (Srt (X++(min e.1 key,c2)::Y))∧putE kr r (X++(min e.1 key,c2)::Y)=X++(min e.1 key,c2)::(kr,r)::Y∧Bd t2.N (h+1) (putE kr r (X++(min e.1 key,c2)::Y)) hi (L0++((M1++M2)++L2))∧Bx lo hi (putE kr r (X++(min e.1 key,c2)::Y))∧(vals (putE kr r (X++(min e.1 key,c2)::Y))).Nodup∧lo≤kr∧kr<hi:=by
 obtain ⟨a,b⟩:=KZ S hq0 hq2
 have hn:=I4 c2 hs hr (k1:=min e.1 key) (hX.imp id (fun q=>by omega)) (by omega) hlo
 obtain ⟨hp,_,hl1,hl2⟩:=Tv (r:=r) hn.1 hk1 hk2 hn.2 hhi
 have hr2:=M6 hn.1 r hn.2 ⟨hl1,hl2⟩
 have hs2:=I1 (k:=kr) (v:=r) hn.1
 have hB:Bd t2.N (h+1) (putE kr r (X++(min e.1 key,c2)::Y)) hi (L0++((M1++M2)++L2)):=by
  rw[hp]
  have:L0++((M1++M2)++L2)=L0++(M1++(M2++L2)):=by simp
  rw[this]
  exact Sq.mk (e:=(min e.1 key,c2)) (B:=(kr,r)::Y) a hT ⟨M2,L2,rfl,hT2,b⟩
 exact ⟨hn.1,hp,hB,hr2,hB.nodup hs2 (fun x hx=>(hr2 x hx).2),hl1,hl2⟩
theorem Tx (hr:Bx lo hi (X++e::Y)) (hb:lo≤min e.1 key):∀ x∈X++(min e.1 key,c)::Y,lo≤x.1∧x.1<hi:=fun x hx=>by
 rcases List.mem_append.1 hx with hx|hx
 ·exact hr x (by simp[hx])
 ·rcases List.mem_cons.1 hx with rfl|hx
  ·have:=hr e (by simp);dsimp only;omega
  ·exact hr x (by simp[hx])
end
section
open Go.RowKit
variable {Tb:Ae}
set_option maxHeartbeats 2000000 in
theorem Ya (pp mb n:Nat) (o:TB) (t:TS) (Q:List Nat) (a:Nat) (lo hi:Int) (m:Nat) (key:Int) (val:Nat) (L:List E) (hP:InsPre n t Q a 0 lo hi m key val L):Cn prog 47 [Pt_ pp,Iv_ (a:Int),Iv_ key,Iv_ (val:Int)] [trA Tb pp mb n o (some (t,a::val::Q))] (fun v Γ=>Is Tb pp mb n o t Q 0 lo hi m key val L v Γ):=by
 intro z R w H;replace H:=H.l1;have K:=H.says 0 rfl (fun h a=>trA.k a)
 have hn:=K.hn
 have hkk:=hP.kk;have h0:=hP.l0;have h1048:=hP.h1;have hnv:=hP.nv;have htk:=hP.hk;have htb:=hP.hb
 obtain ⟨b,hvd⟩:=hP.dt;have hvr:=K.i.rin val (by simp[Cb])
 obtain ⟨es,hN,hm,hrg,hok,hLes,hdt⟩:=hP.T;have hck:CkN true (kL es) (vL es):=K.i.vok (by omega) hn.2 hN
 have hnd:=(K.i.nds a _ hN).2.1
 have hkv:(0≤key∧key<1048576)∧1≤val∧val<1024:=by omega
 obtain rfl:es=L:=hLes.symm;refine Ad func47 rfl ntmps47 rfl (Za 2 [] H rfl ?_);intro b1 w H;refine Zc 7 rfl (Ax rfl (call88 _) (Ip pp mb n o t (val::Q) a true es hN (by omega) (by simp only[List.length_cons];omega)) H.f1 ?_);rintro _ w _ (⟨hnone,v2,v3,s,rfl,rfl⟩|⟨t1,c,v2,v3,O,rfl,rfl⟩) H'
 ·have H:=H'.l4;have sv2:=H.says 0 rfl (fun h q=>q.slc)
  have sv3:=H.says 1 rfl (fun h q=>q.slc)
  refine Za 4 [] H rfl ?_;intro b4 w H;refine Zc 1 rfl (AB rfl rfl (Ai 0 H rfl rfl rfl rfl (vs:=[.bool true,v2,v3]) rfl (Ac rfl (Ac sv2.one (Ac sv3.one Au))) (by kernel_rfl) (by simp) (out:=[.bool true,v2,v3]) rfl) ?_);rintro w H;replace H:=H.l5;refine Z4 20 [3,4] H rfl ?_;intro w H;refine Zl [4,3] H rfl ?_;exact ⟨_,.inl ⟨(by omega),_,rfl,rfl⟩,H.perm 5 [3] rfl rfl⟩
 ·have H:=H'.l4;have sv2:=H.says 0 rfl (fun h q=>q.slc)
  have sv3:=H.says 1 rfl (fun h q=>q.slc)
  refine Za 4 [] H rfl ?_;intro b5 w H;refine Zc 1 rfl (AB rfl rfl (Ai 0 H rfl rfl rfl rfl (vs:=[.bool true,v2,v3]) rfl (Ac rfl (Ac sv2.one (Ac sv3.one Au))) (by kernel_rfl) (by simp) (out:=[.bool true,v2,v3]) rfl) ?_);rintro w H;replace H:=H.l5;refine Z0 15 [4] rfl ?_;obtain ⟨hl1,hl2,hl3⟩:=Tw (N:=t1.N) hok.srt hrg hkk (fun e he=>by obtain ⟨b,hb⟩:=hdt e he;exact ⟨b,O.dv _ (List.mem_map_of_mem he) b hb⟩) (O.st.dt val (by simp) b hvd) hnd (hnv a _ hN);refine Z2 11 [0,0,0,0,3] H rfl (Ax rfl (call43 _) (M5 (es:=es) (fun h q=>q.rd) (fun h q=>q.rd) hok.len hok.srt key) H.f2.f2 ?_);rintro _ w _ (⟨X,v0,Y,⟨hes,hX⟩,rfl,rfl⟩|⟨hno,i0,rfl,rfl⟩) H'
  ·have H:=H'.l5;refine Zc 14 rfl ?_;have hv0:∀ d,t1.N v0≠some (.nd d):=fun d q=>by obtain ⟨b,hb⟩:=hdt (key,v0) (by rw[hes];simp);rw[O.dv v0 (by rw[hes];simp[vals]) b hb] at q;cases q
   obtain ⟨ao2,cc2,rfl⟩:=sv3;have hat:=(H.rd 1 rfl (fun h q=>q.rd)).at (j:=X.length) (u:=Iv_ (v0:Int)) (by rw[hes];simp[vL])
   replace H:=(H.mono 3 (B:=trA Tb pp mb n o (some (t1,v0::(c::(vals (putE key val es)++Q))))) rfl (fun h q=>q.perm (by rw[hes];exact Lf hX))).l5
   refine Z2 5 [2,2,0] H rfl (Ab rfl (Aj rfl (z:=1) (j:=X.length) (r:=X.length) (by kernel_rfl) rfl rfl rfl (by rw[hes];simp) hat (by omega)) (Ab rfl (Av rfl rfl (by kernel_rfl) (Aq hat)) (Ax rfl (call49 _) (FU pp mb n o t1 _ v0 hv0) H.f3 ?_)));rintro _ w _ ⟨t2,⟨hS2,hq2,hC2,hN2,hF2⟩,rfl,rfl⟩ H;refine Z2 19 [4,3,3] H rfl (Ax rfl (call89 _) (Pu pp mb n o t2 Q c true _ _ es _ _ (fun h q=>q.rd) (fun h q=>q.rd) key val hkv hck hok.srt 0 lo hi m (putE key val es) (hS2.bd (fun v hv=>by simp[hv]) hl1) rfl hl2 hl3 (hS2.op c (by simp) O.N0 O.C1).2 (hS2.op c (by simp) O.N0 O.C1).1 (by have:=O.st.k;have:=hS2.k;omega) (by have:=(I3 (es:=es) hok.srt key val).1;omega) h0 h1048) H ?_);rintro _ w _ (⟨hf3,s3,rfl,rfl⟩|⟨t3,⟨hSt3,hT3⟩,rfl,rfl⟩|⟨t3,kr3,r3,L3,L4,⟨hSt3,hL3,hk3,hk4,hT3,hT4⟩,rfl,rfl⟩) H'
   ·have H:=H'.l5;refine Z4 7 [4] H rfl ?_;intro w H;refine Zl [4,3] H rfl ?_;exact ⟨_,.inl ⟨(by have:=O.st.f;have:=hS2.f;omega),_,rfl,rfl⟩,H.perm 5 [0] rfl rfl⟩
   ·have H:=H'.l5;refine Z4 7 [4] H rfl ?_;intro w H;refine Zl [4,3] H rfl ?_;exact ⟨_,.inr (.inl ⟨_,c,⟨((O.st.sub (fun p hp=>by simp[hp]) (Nat.le_refl _) (Nat.le_refl _)).trans hS2 (R:=Q) (R1:=Q) (fun p hp=>hp) (fun p hp=>by simp[hp]) (e:=1) (f:=1) (by omega) (by omega)).trans hSt3 (fun p hp=>hp) (fun p hp=>hp) (by omega) (by omega),hT3⟩,rfl,rfl⟩),H.perm 5 [0] rfl rfl⟩
   ·have H:=H'.l5;refine Z4 7 [4] H rfl ?_;intro w H;refine Zl [4,3] H rfl ?_;exact ⟨_,.inr (.inr ⟨_,c,_,_,_,_,⟨((O.st.sub (fun p hp=>by simp[hp]) (Nat.le_refl _) (Nat.le_refl _)).trans hS2 (R:=Q) (R1:=Q) (fun p hp=>hp) (fun p hp=>by simp[hp]) (e:=1) (f:=1) (by omega) (by omega)).trans hSt3 (fun p hp=>hp) (fun p hp=>hp) (by omega) (by omega),hL3,hk3,hk4,hT3,hT4⟩,rfl,rfl⟩),H.perm 5 [0] rfl rfl⟩
  ·have H:=H'.l5;refine Zc 16 rfl ?_;replace H:=(H.mono 3 (B:=trA Tb pp mb n o (some (t1,c::(vals (putE key val es)++Q)))) rfl (fun h q=>q.perm (Le hok.srt hno))).l5
   refine Z2 6 [2,3] H rfl (Ax rfl (call89 _) (Pu pp mb n o t1 Q c true _ _ es _ _ (fun h q=>q.rd) (fun h q=>q.rd) key val hkv hck hok.srt 0 lo hi m (putE key val es) hl1 rfl hl2 hl3 O.C1 O.N0 (by have:=O.st.k;omega) (by have:=(I3 (es:=es) hok.srt key val).1;omega) h0 h1048) H.f1.f1.f3 ?_);rintro _ w _ (⟨hf3,s3,rfl,rfl⟩|⟨t3,⟨hSt3,hT3⟩,rfl,rfl⟩|⟨t3,kr3,r3,L3,L4,⟨hSt3,hL3,hk3,hk4,hT3,hT4⟩,rfl,rfl⟩) H'
   ·have H:=H'.l5;refine Z4 7 [4] H rfl ?_;intro w H;refine Zl [4,3] H rfl ?_;exact ⟨_,.inl ⟨(by have:=O.st.f;omega),_,rfl,rfl⟩,H.perm 5 [0] rfl rfl⟩
   ·have H:=H'.l5;refine Z4 7 [4] H rfl ?_;intro w H;refine Zl [4,3] H rfl ?_;exact ⟨_,.inr (.inl ⟨_,c,⟨(O.st.sub (fun p hp=>by simp[hp]) (Nat.le_refl _) (Nat.le_refl _)).trans hSt3 (R:=Q) (R1:=Q) (fun p hp=>hp) (fun p hp=>hp) (by omega) (by omega),hT3⟩,rfl,rfl⟩),H.perm 5 [0] rfl rfl⟩
   ·have H:=H'.l5;refine Z4 7 [4] H rfl ?_;intro w H;refine Zl [4,3] H rfl ?_;exact ⟨_,.inr (.inr ⟨_,c,_,_,_,_,⟨(O.st.sub (fun p hp=>by simp[hp]) (Nat.le_refl _) (Nat.le_refl _)).trans hSt3 (R:=Q) (R1:=Q) (fun p hp=>hp) (fun p hp=>hp) (by omega) (by omega),hL3,hk3,hk4,hT3,hT4⟩,rfl,rfl⟩),H.perm 5 [0] rfl rfl⟩
set_option maxHeartbeats 4000000 in
theorem Yb (pp mb n:Nat) (o:TB) (t:TS) (Q:List Nat) (h:Nat) (ih:∀ (t:TS) (Q:List Nat) (a:Nat) (lo hi:Int) (m:Nat) (key:Int) (val:Nat) (L:List E),InsPre n t Q a h lo hi m key val L→Cn prog 47 [Pt_ pp,Iv_ (a:Int),Iv_ key,Iv_ (val:Int)] [trA Tb pp mb n o (some (t,a::val::Q))] (fun v Γ=>Is Tb pp mb n o t Q h lo hi m key val L v Γ)) (a:Nat) (lo hi:Int) (m:Nat) (key:Int) (val:Nat) (L:List E) (hP:InsPre n t Q a (h+1) lo hi m key val L):Cn prog 47 [Pt_ pp,Iv_ (a:Int),Iv_ key,Iv_ (val:Int)] [trA Tb pp mb n o (some (t,a::val::Q))] (fun v Γ=>Is Tb pp mb n o t Q (h+1) lo hi m key val L v Γ):=by
 intro z R w H;replace H:=H.l1;have K:=H.says 0 rfl (fun h a=>trA.k a)
 have hn:=K.hn
 have hkk:=hP.kk;have h0:=hP.l0;have h1048:=hP.h1;have hnv:=hP.nv;have htk:=hP.hk;have htb:=hP.hb
 obtain ⟨b,hvd⟩:=hP.dt;have hvr:=K.i.rin val (by simp[Cb])
 obtain ⟨es,hN,hm,hrg,hok,hBd⟩:=hP.T;refine Ad func47 rfl ntmps47 rfl (Za 2 [] H rfl ?_);intro b1 w H;refine Zc 7 rfl (Ax rfl (call88 _) (Ip pp mb n o t (val::Q) a false es hN (by omega) (by simp only[List.length_cons];omega)) H.f1 ?_);rintro _ w _ (⟨hnone,v2,v3,s,rfl,rfl⟩|⟨t1,c,v2,v3,O,rfl,rfl⟩) H'
 ·have H:=H'.l4;have sv2:=H.says 0 rfl (fun h q=>q.slc)
  have sv3:=H.says 1 rfl (fun h q=>q.slc)
  refine Za 4 [] H rfl ?_;intro b4 w H;refine Zc 1 rfl (AB rfl rfl (Ai 0 H rfl rfl rfl rfl (vs:=[.bool false,v2,v3]) rfl (Ac rfl (Ac sv2.one (Ac sv3.one Au))) (by kernel_rfl) (by simp) (out:=[.bool false,v2,v3]) rfl) ?_);rintro w H;replace H:=H.l5;refine Z4 20 [3,4] H rfl ?_;intro w H;refine Zl [4,3] H rfl ?_;exact ⟨_,.inl ⟨(by omega),_,rfl,rfl⟩,H.perm 5 [3] rfl rfl⟩
 ·have H:=H'.l4;have sv2:=H.says 0 rfl (fun h q=>q.slc)
  have sv3:=H.says 1 rfl (fun h q=>q.slc)
  refine Za 4 [] H rfl ?_;intro b5 w H;refine Zc 1 rfl (AB rfl rfl (Ai 0 H rfl rfl rfl rfl (vs:=[.bool false,v2,v3]) rfl (Ac rfl (Ac sv2.one (Ac sv3.one Au))) (by kernel_rfl) (by simp) (out:=[.bool false,v2,v3]) rfl) ?_);rintro w H;replace H:=H.l5;refine Z2 27 [4,0,0,0,0,3] H rfl (Ax rfl (call44 _) (Kt (es:=es) (fun h q=>q.rd) (fun h q=>q.rd) hok.len hok.srt (hok.ne rfl) key) H.f2.f2 ?_);rintro _ w _ ⟨X,e,Y,⟨hes,hX,hXe,hY⟩,rfl,rfl⟩ H;refine Zc 4 rfl ?_;obtain ⟨ao2,cc2,rfl⟩:=sv3;have hat:=(H.rd 1 rfl (fun h q=>q.rd)).at (j:=X.length) (u:=Iv_ (e.2:Int)) (by rw[hes];simp[vL])
  replace H:=(H.mono 3 (B:=trA Tb pp mb n o (some (t1,e.2::val::(c::(vals X++(vals Y++Q)))))) rfl (fun h q=>q.perm (by rw[hes];exact Wm))).l5
  have hs1:Srt (X++e::Y):=by rw[←hes];exact hok.srt
  have hr1:Bx lo hi (X++e::Y):=by rw[←hes];exact hrg
  obtain ⟨L0,Lc,L2,⟨hq0,hqc,hq2⟩,hLe,hLp,hb1,hb2,hb3,hb4⟩:=X9 val hs1 hr1 (by rw[←hes];exact O.bd hBd) hX hY hkk;have hel:(vals X).length+(vals Y).length+1=es.length:=by rw[hes];simp[vals];omega
  have hes8:es.length≤8:=hok.len
  refine Z2 5 [2,2,0] H rfl (Ab rfl (Aj rfl (z:=1) (j:=X.length) (r:=X.length) (by kernel_rfl) rfl rfl rfl (by rw[hes];simp) hat (by omega)) (Ab rfl (Av rfl rfl (by kernel_rfl) (Aq hat)) (Zc 2 rfl (Ax rfl (call47 _) (ih t1 (c::(vals X++(vals Y++Q))) e.2 (min e.1 key) (nx Y hi) 4 key val Lc ⟨hqc,⟨hb2,hb3⟩,by omega,by omega,⟨b,O.st.dt val (by simp) b hvd⟩,fun q d hq=>hnv q d (O.sub q d hq),by have:=O.st.k;omega,by simp only[List.length_cons,List.length_append];omega⟩) H.f3 ?_))));rintro _ w _ (⟨hf2,s2,rfl,rfl⟩|⟨t2,c2,⟨hSt2,hT2⟩,rfl,rfl⟩|⟨t2,c2,kr,r,M1,M2,⟨hSt2,hLs,hk1,hk2,hT2,hT3⟩,rfl,rfl⟩) H'
  ·have H:=H'.l5;refine Za 3 [] H rfl ?_;intro b6 w H;refine Z4 21 [0,3,5] H rfl ?_;intro w H;refine Zl [5,3] H rfl ?_;exact ⟨_,.inl ⟨(by have:=O.st.f;omega),_,rfl,rfl⟩,H.perm 6 [1] rfl rfl⟩
  ·have H:=H'.l5;refine Za 3 [] H rfl ?_;intro b7 w H;refine Z4 15 [0,4] H rfl ?_;intro w H;have hXl:X.length<es.length:=by rw[hes];simp
   have hnek:0<(kL es).length:=by simp only[List.length_map];omega
   have hnev:0<(vL es).length:=by simp only[List.length_map];omega
   obtain ⟨gk,cap_gk,rest_gk,rfl,c1gk,c2gk,c3gk,H⟩:=H.ungrow 2 rfl hnek;replace H:=H.l6;obtain ⟨gv_,cap_gv_,rest_gv_,hgq,c1gv_,c2gv_,c3gv_,H'⟩:=H.ungrow 3 rfl hnev;cases hgq;clear H;have H:=H'.l6;refine Z2 6 [2,4,0,0,0,0] H rfl (Ab rfl (B5 rfl (z:=1) (j:=X.length) (r:=X.length) (by kernel_rfl) rfl rfl rfl (by simp only[List.length_map];omega) (by omega)) (AB rfl rfl (Ai 3 H rfl rfl rfl rfl (vs:=[Iv_ (c2:Int)]) rfl (by simp[u8,u32,Value.oneCell']) (by kernel_rfl) (by simp only[List.length_append,List.length_map,List.length_cons,List.length_nil];omega) (out:=(((vL es).set X.length (c2:Int)).map Iv_++rest_gv_)) (Dj (by simp only[List.length_map];omega))) ?_));rintro w H;replace H:=H.l6;refine Zc 3 rfl (BK 11 (by kernel_rfl) (by kernel_rfl) (A9 H fun w H'=> ?_))
   have H:=H'.l6;refine TV 6 [1,0,1,0] (Bk (H.blk 4 rfl) Bq) rfl (by kernel_rfl) rfl (B6 rfl rfl rfl (B5 rfl (z:=1) (j:=X.length) (r:=X.length) (by kernel_rfl) rfl rfl rfl (by simp only[List.length_map];omega) (by omega)) (B6 rfl rfl rfl (AK rfl rfl (by kernel_rfl) (Aq (H.cel 2 rfl X.length (show ((kL es).map Iv_++rest_gk)[X.length]? =some (Iv_ e.1) from (by rw[List.getElem?_append_left (by simp only[List.length_map];omega),List.getElem?_map,List.getElem?_map,hes];simp))))) ?_));refine NK 1 [] rfl (by kernel_rfl) (B6 rfl rfl rfl (Je rfl rfl rfl) (B6 rfl rfl rfl (B5 rfl (z:=1) (j:=X.length) (r:=X.length) (by kernel_rfl) rfl rfl rfl (by simp only[List.length_map];omega) (by omega)) (CC (gw (AB rfl rfl (Ai 2 H rfl rfl rfl rfl (vs:=[Iv_ (min (e.1:Int) key)]) rfl (by simp[u8,u32,Value.oneCell']) (by kernel_rfl) (by simp only[List.length_append,List.length_map,List.length_cons,List.length_nil];omega) (out:=(((kL es).set X.length (min e.1 key)).map Iv_++rest_gk)) (Dj (by simp only[List.length_map];omega))) ?_)))));rintro w H;replace H:=H.l6;refine Zc 4 rfl ?_;have hlk:(kL es).length=(kL (X++(min e.1 key,c2)::Y)).length:=by rw[hes];simp
   have hlv:(vL es).length=(vL (X++(min e.1 key,c2)::Y)).length:=by rw[hes];simp
   have hks:(kL es).set X.length (min e.1 key)=kL (X++(min e.1 key,c2)::Y):=by rw[hes];simp[kL,List.set_append]
   have hvs:(vL es).set X.length (c2:Int)=vL (X++(min e.1 key,c2)::Y):=by rw[hes];simp[vL,List.set_append]
   replace H:=(H.mono 2 (B:=grow 3 1 (.slice (some ⟨gk,0,none⟩) ((kL es).length) cap_gk) ((kL es).length) ((kL (X++(min e.1 key,c2)::Y)).map Iv_)) rfl (fun h q=>q.grow (by omega) (by omega) (by simp only[List.length_append,List.length_map,List.length_set];simp only[List.length_map] at *;omega) (by rw[Nat.mul_one,List.take_left' (by simp),hks]))).l6
   replace H:=(H.mono 3 (B:=grow 3 1 (.slice (some ⟨gv_,0,none⟩) ((vL es).length) cc2) ((vL es).length) ((vL (X++(min e.1 key,c2)::Y)).map Iv_)) rfl (fun h q=>q.grow (by omega) (by omega) (by simp only[List.length_append,List.length_map,List.length_set];simp only[List.length_map] at *;omega) (by rw[Nat.mul_one,List.take_left' (by simp),hvs]))).l6
   refine Z2 10 [2,0,0,4] H rfl ?_;obtain ⟨hB2,⟨hn1,hn2⟩,hd2⟩:=Wn hSt2 hq0 hq2 hT2 hs1 hr1 hX hb1;have hl1:((X++(min e.1 key,c2)::Y):List E).length=es.length:=by rw[hes];simp
   replace H:=(H.mono 1 (B:=trA Tb pp mb n o (some (t2,c::(vals (X++(min e.1 key,c2)::Y)++Q)))) rfl (fun h q=>q.perm M7)).l6
   refine Z2 6 [4,3] H rfl (Ax rfl (call90 _) (E2 pp mb n o t2 Q c false _ _ (X++(min e.1 key,c2)::Y) _ _ (fun h q=>by rw[←hlk];exact q.rd) (fun h q=>by rw[←hlv];exact q.rd) (h+1) lo hi m (putE key val L) (by rw[hLp];exact hB2) (by simp) hn2 (by omega) ⟨hn1,by dsimp only;omega,Ir hn2 h0 h1048,fun _=>by simp⟩ hd2 (hSt2.op c (by simp) O.N0 O.C1).2 (hSt2.op c (by simp) O.N0 O.C1).1 (by have:=O.st.k;have:=hSt2.k;omega)) H.f3.f3.f3 ?_);rintro _ w _ ⟨t3,⟨hSt3,hT3,hC3,hN3⟩,rfl,rfl⟩ H;refine Z4 5 [5] H rfl ?_;intro w H;refine Zl [5,3] H rfl ?_;exact ⟨_,.inr (.inl ⟨_,c,⟨((O.st.sub (R':=Q) (fun p hp=>by simp[hp]) (Nat.le_refl _) (Nat.le_refl _)).trans hSt2 (R:=Q) (R1:=Q) (fun p hp=>hp) (fun p hp=>by simp[hp]) (Nat.le_refl _) (Nat.le_refl _)).trans hSt3 (fun p hp=>hp) (fun p hp=>hp) (by omega) (by omega),hT3⟩,rfl,rfl⟩),H.perm 6 [0] rfl rfl⟩
  ·have H:=H'.l5;refine Za 3 [] H rfl ?_;intro b8 w H;refine Z4 15 [0,4] H rfl ?_;intro w H;have hXl:X.length<es.length:=by rw[hes];simp
   have hnek:0<(kL es).length:=by simp only[List.length_map];omega
   have hnev:0<(vL es).length:=by simp only[List.length_map];omega
   obtain ⟨gk,cap_gk,rest_gk,rfl,c1gk,c2gk,c3gk,H⟩:=H.ungrow 2 rfl hnek;replace H:=H.l6;obtain ⟨gv_,cap_gv_,rest_gv_,hgq,c1gv_,c2gv_,c3gv_,H'⟩:=H.ungrow 3 rfl hnev;cases hgq;clear H;have H:=H'.l6;refine Z2 6 [2,4,0,0,0,0] H rfl (Ab rfl (B5 rfl (z:=1) (j:=X.length) (r:=X.length) (by kernel_rfl) rfl rfl rfl (by simp only[List.length_map];omega) (by omega)) (AB rfl rfl (Ai 3 H rfl rfl rfl rfl (vs:=[Iv_ (c2:Int)]) rfl (by simp[u8,u32,Value.oneCell']) (by kernel_rfl) (by simp only[List.length_append,List.length_map,List.length_cons,List.length_nil];omega) (out:=(((vL es).set X.length (c2:Int)).map Iv_++rest_gv_)) (Dj (by simp only[List.length_map];omega))) ?_));rintro w H;replace H:=H.l6;refine Zc 3 rfl (BK 11 (by kernel_rfl) (by kernel_rfl) (A9 H fun w H'=> ?_))
   have H:=H'.l6;refine TV 6 [1,0,1,0] (Bk (H.blk 4 rfl) Bq) rfl (by kernel_rfl) rfl (B6 rfl rfl rfl (B5 rfl (z:=1) (j:=X.length) (r:=X.length) (by kernel_rfl) rfl rfl rfl (by simp only[List.length_map];omega) (by omega)) (B6 rfl rfl rfl (AK rfl rfl (by kernel_rfl) (Aq (H.cel 2 rfl X.length (show ((kL es).map Iv_++rest_gk)[X.length]? =some (Iv_ e.1) from (by rw[List.getElem?_append_left (by simp only[List.length_map];omega),List.getElem?_map,List.getElem?_map,hes];simp))))) ?_));refine NK 1 [] rfl (by kernel_rfl) (B6 rfl rfl rfl (Je rfl rfl rfl) (B6 rfl rfl rfl (B5 rfl (z:=1) (j:=X.length) (r:=X.length) (by kernel_rfl) rfl rfl rfl (by simp only[List.length_map];omega) (by omega)) (CC (gw (AB rfl rfl (Ai 2 H rfl rfl rfl rfl (vs:=[Iv_ (min (e.1:Int) key)]) rfl (by simp[u8,u32,Value.oneCell']) (by kernel_rfl) (by simp only[List.length_append,List.length_map,List.length_cons,List.length_nil];omega) (out:=(((kL es).set X.length (min e.1 key)).map Iv_++rest_gk)) (Dj (by simp only[List.length_map];omega))) ?_)))));rintro w H;replace H:=H.l6;refine Zc 4 rfl ?_;have hlk:(kL es).length=(kL (X++(min e.1 key,c2)::Y)).length:=by rw[hes];simp
   have hlv:(vL es).length=(vL (X++(min e.1 key,c2)::Y)).length:=by rw[hes];simp
   have hks:(kL es).set X.length (min e.1 key)=kL (X++(min e.1 key,c2)::Y):=by rw[hes];simp[kL,List.set_append]
   have hvs:(vL es).set X.length (c2:Int)=vL (X++(min e.1 key,c2)::Y):=by rw[hes];simp[vL,List.set_append]
   have hr0:manyN n+1≤r:=by have K3:=H.says 1 rfl (fun h a=>trA.k a);exact (K3.i.rin r (by simp[Cb])).1
   replace H:=(H.mono 2 (B:=grow 3 1 (.slice (some ⟨gk,0,none⟩) ((kL es).length) cap_gk) ((kL es).length) ((kL (X++(min e.1 key,c2)::Y)).map Iv_)) rfl (fun h q=>q.grow (by omega) (by omega) (by simp only[List.length_append,List.length_map,List.length_set];simp only[List.length_map] at *;omega) (by rw[Nat.mul_one,List.take_left' (by simp),hks]))).l6
   replace H:=(H.mono 3 (B:=grow 3 1 (.slice (some ⟨gv_,0,none⟩) ((vL es).length) cc2) ((vL es).length) ((vL (X++(min e.1 key,c2)::Y)).map Iv_)) rfl (fun h q=>q.grow (by omega) (by omega) (by simp only[List.length_append,List.length_map,List.length_set];simp only[List.length_map] at *;omega) (by rw[Nat.mul_one,List.take_left' (by simp),hvs]))).l6
   refine Z2 6 [2,0,0,0] H rfl (Af rfl (fun h1=> ?_) (fun h1=> ?_))
   ·refine Zc 1 rfl ?_;obtain ⟨hn1,hput,hB2,hr2,hd2,hkr1,hkr2⟩:=Wo (r:=r) hSt2 hq0 hq2 hT2 hT3 hs1 hr1 hX hb1 hk1 hk2 hb4;have hpl:(putE kr r (X++(min e.1 key,c2)::Y)).length=es.length+1:=by rw[hput,hes];simp only[List.length_append,List.length_cons];omega
    replace H:=(H.mono 1 (B:=trA Tb pp mb n o (some (t2,c::(vals (putE kr r (X++(min e.1 key,c2)::Y))++Q)))) rfl (fun h q=>q.perm (by rw[hput];exact Q8))).l6
    have K2:=H.says 1 rfl (fun h a=>trA.k a)
    have hr3:=Ir hr2 h0 h1048
    have hkv2:(0≤kr∧kr<1048576)∧1≤r∧r<1024:=by have:=K2.i.rin r (by simp[Cb,hput,vals]);omega
    have hck2:CkN false (kL (X++(min e.1 key,c2)::Y)) (vL (X++(min e.1 key,c2)::Y)):=CkN.of ⟨hn1,by have:((X++(min e.1 key,c2)::Y):List E).length=es.length:=(by rw[hes];simp);dsimp only;omega,fun x hx=>by have:=Tx hr1 hb1 (c:=c2) x hx;omega,fun _=>by simp⟩ (fun v hv=>by have:=K2.i.rin v (by simp only[Cb,hput,Bm,BE] at hv ⊢;simp only[List.mem_cons,List.mem_append] at hv ⊢;rcases hv with h|h|h<;>simp[h]);omega)
    refine Z2 8 [4,3,1,0,0,2,0,0] H rfl (Ax rfl (call89 _) (Pu pp mb n o t2 Q c false _ _ (X++(min e.1 key,c2)::Y) _ _ (fun h q=>by rw[←hlk];exact q.rd) (fun h q=>by rw[←hlv];exact q.rd) kr r hkv2 hck2 hn1 (h+1) lo hi m (putE key val L) (by rw[hLp,hLs];exact hB2) (by simp) hr2 hd2 (hSt2.op c (by simp) O.N0 O.C1).2 (hSt2.op c (by simp) O.N0 O.C1).1 (by have:=O.st.k;have:=hSt2.k;omega) (by omega) h0 h1048) H.f3.f3.f3 ?_);rintro _ w _ (⟨hf3,s3,rfl,rfl⟩|⟨t3,⟨hSt3,hT3⟩,rfl,rfl⟩|⟨t3,kr3,r3,L3,L4,⟨hSt3,hL3,hk3,hk4,hT3,hT4⟩,rfl,rfl⟩) H'
    ·have H:=H'.l6;refine Z4 7 [5] H rfl ?_;intro w H;refine Zl [5,3] H rfl ?_;exact ⟨_,.inl ⟨(by have:=O.st.f;have:=hSt2.f;omega),_,rfl,rfl⟩,H.perm 6 [0] rfl rfl⟩
    ·have H:=H'.l6;refine Z4 7 [5] H rfl ?_;intro w H;refine Zl [5,3] H rfl ?_;exact ⟨_,.inr (.inl ⟨_,c,⟨((O.st.sub (R':=Q) (fun p hp=>by simp[hp]) (Nat.le_refl _) (Nat.le_refl _)).trans hSt2 (R:=Q) (R1:=Q) (fun p hp=>hp) (fun p hp=>by simp[hp]) (Nat.le_refl _) (Nat.le_refl _)).trans hSt3 (fun p hp=>hp) (fun p hp=>hp) (by omega) (by omega),hT3⟩,rfl,rfl⟩),H.perm 6 [0] rfl rfl⟩
    ·have H:=H'.l6;refine Z4 7 [5] H rfl ?_;intro w H;refine Zl [5,3] H rfl ?_;exact ⟨_,.inr (.inr ⟨_,c,_,_,_,_,⟨((O.st.sub (R':=Q) (fun p hp=>by simp[hp]) (Nat.le_refl _) (Nat.le_refl _)).trans hSt2 (R:=Q) (R1:=Q) (fun p hp=>hp) (fun p hp=>by simp[hp]) (Nat.le_refl _) (Nat.le_refl _)).trans hSt3 (fun p hp=>hp) (fun p hp=>hp) (by omega) (by omega),hL3,hk3,hk4,hT3,hT4⟩,rfl,rfl⟩),H.perm 6 [0] rfl rfl⟩
   ·(exfalso;omega)
end
section
open Go.RowKit
variable {Tb:Ae}
theorem M8 (pp mb n:Nat) (o:TB):∀ (h:Nat) (t:TS) (Q:List Nat) (a:Nat) (lo hi:Int) (m:Nat) (key:Int) (val:Nat) (L:List E),InsPre n t Q a h lo hi m key val L→Cn prog 47 [Pt_ pp,Iv_ (a:Int),Iv_ key,Iv_ (val:Int)] [trA Tb pp mb n o (some (t,a::val::Q))] (fun v Γ=>Is Tb pp mb n o t Q h lo hi m key val L v Γ)
 | 0=>fun t Q a lo hi m key val L hP=>Ya pp mb n o t Q a lo hi m key val L hP
 | h+1=>fun t Q a lo hi m key val L hP=>Yb pp mb n o t Q h (M8 pp mb n o h) a lo hi m key val L hP
theorem Tr.lo {N:Hm} {h r:Nat} {lo hi:Int} {m:Nat} {L es:List E} {lf:Bool} (t:Tr N h r lo hi m L) (hN:N r=some (.nd ⟨lf,es⟩)) (hm:1≤m):Tr N h r (nx es hi) hi m L∧lo≤nx es hi∧nx es hi<hi:=by
 obtain ⟨es',h1,h2,h3,h4,h5⟩:=Tr.iff.1 t
 rw[h1] at hN;cases hN
 cases es with
 | nil=>simp at h2;omega
 | cons e u=>
  have he:=h3 e (by simp)
  refine ⟨Tr.iff.2 ⟨_,h1,h2,fun x hx=>⟨?_,(h3 x hx).2⟩,h4,h5⟩,he⟩
  rcases List.mem_cons.1 hx with rfl|hx
  ·exact Int.le_refl _
  ·exact Int.le_of_lt ((Srt.cons.1 h4.srt).1 x hx)
theorem root_two {N:Hm} {h c r:Nat} {kr:Int} {L1 L2:List E} {es:List E} {lf:Bool} (hT:Tr N h c 0 kr 4 L1) (hN:N c=some (.nd ⟨lf,es⟩)) (hT2:Tr N h r kr 1048576 4 L2) (hkr:kr<1048576):
  Bd N (h+1) [(nx es kr,c),(kr,r)] 1048576 (L1++L2)∧Bx 0 1048576 [(nx es kr,c),(kr,r)]∧(Nd.mk false [(nx es kr,c),(kr,r)]).Ok∧(vals [(nx es kr,c),(kr,r)]).Nodup:=by
 obtain ⟨h1,h2,h3⟩:=hT.lo hN (by omega)
 have hs:Srt [(nx es kr,c),(kr,r)]:=Srt.cons.2 ⟨fun x hx=>by simp at hx;subst hx;exact h3,Srt.cons.2 ⟨by simp,by simp[Srt]⟩⟩
 have hr:Bx 0 1048576 [(nx es kr,c),(kr,r)]:=fun x hx=>by
  simp at hx;rcases hx with rfl|rfl
  ·dsimp only;omega
  ·dsimp only;omega
 have hB:Bd N (h+1) [(nx es kr,c),(kr,r)] 1048576 (L1++L2):=⟨L1,L2,rfl,h1,L2,[],by simp,hT2,rfl⟩
 exact ⟨hB,hr,⟨hs,by simp,fun e he=>hr e he,fun _=>by simp⟩,hB.nodup hs (fun x hx=>(hr x hx).2)⟩
theorem Ty {N:Hm} {key:Int} {val:Nat} {b:List UInt8} (hv:N val=some (.dt b)) (hk:0≤key∧key<1048576):Bd N 0 [(key,val)] 1048576 (putE key val [])∧Bx 0 1048576 [(key,val)]∧(Nd.mk true [(key,val)]).Ok∧(vals [(key,val)]).Nodup:=by
 have hr:Bx 0 1048576 [(key,val)]:=fun x hx=>by simp at hx;subst hx;exact hk
 exact ⟨⟨rfl,fun e he=>by simp at he;subst he;exact ⟨b,hv⟩⟩,hr,⟨by simp[Srt],by simp,fun e he=>hr e he,fun q=>by cases q⟩,by simp[vals]⟩
def Root (N:Hm) (r:Nat) (L:List E):Prop:=(r=0∧L=[])∨(r≠0∧∃ h,Tr N h r 0 1048576 (if h=0 then 1 else 2) L)
def AW (r:Nat):List Nat:=if r=0 then [] else [r]
def Cq (N:Hm):Nat→Nat→List Nat
 | 0,r=>[r]
 | h+1,r=>match N r with
  | some (.nd d)=>d.es.flatMap fun e=>Cq N h e.2
  | _=>[]
def OA (N:Hm) (r:Nat):List E:=match N r with
 | some (.nd d)=>d.es
 | _=>[]
theorem JL {N:Hm} {h r:Nat} {lo hi:Int} {m:Nat} {L:List E} (t:Tr N h r lo hi m L) (hm:1≤m):(Cq N h r).flatMap (OA N)=L∧(∀ q∈Cq N h r,OA N q≠[]∧∃ d,N q=some (.nd d))∧m * 4 ^ (h - 1)≤(Cq N h r).length * (if h=0 then m else 1):=by
 induction h generalizing r lo hi m L with
 | zero=>
  obtain ⟨es,h1,h2,_,_,rfl,_⟩:=t
  refine ⟨by simp[Cq,OA,h1],fun q hq=> ?_,by simp[Cq]⟩
  simp[Cq] at hq;subst hq
  refine ⟨?_,_,h1⟩
  simp only[OA,h1]
  intro q;rw[q] at h2;simp at h2;omega
 | succ h ih=>
  obtain ⟨es,h1,h2,_,_,h5⟩:=t
  have hl:Cq N (h+1) r=es.flatMap fun e=>Cq N h e.2:=by simp[Cq,h1]
  rw[hl]
  have key:∀ (es:List E) (L:List E),Sq (fun c a b L=>Tr N h c a b 4 L) es hi L→(es.flatMap fun e=>Cq N h e.2).flatMap (OA N)=L∧(∀ q∈es.flatMap fun e=>Cq N h e.2,OA N q≠[]∧∃ d,N q=some (.nd d))∧es.length * 4 ^ h≤(es.flatMap fun e=>Cq N h e.2).length:=by
   intro es
   induction es with
   | nil=>intro L q;have q:L=[]:=q;subst q;simp
   | cons e u ih2=>
    rintro _ ⟨L1,L2,rfl,q1,q2⟩
    obtain ⟨a1,a2,a3⟩:=ih q1 (by omega)
    obtain ⟨b1,b2,b3⟩:=ih2 L2 q2
    have a4:4 ^ h≤(Cq N h e.2).length:=by
     cases h with
     | zero=>simp[Cq]
     | succ h=>simp at a3;rw[Nat.pow_succ,Nat.mul_comm];exact a3
    refine ⟨by simp only[List.flatMap_cons,List.flatMap_append,a1,b1],fun q hq=> ?_,?_⟩
    ·rcases List.mem_append.1 (by simpa using hq:q∈Cq N h e.2++u.flatMap fun e=>Cq N h e.2) with hq|hq
     ·exact a2 q hq
     ·exact b2 q hq
    ·simp only[List.flatMap_cons,List.length_append,List.length_cons]
     rw[Nat.add_mul];omega
  obtain ⟨a1,a2,a3⟩:=key es L h5
  refine ⟨a1,a2,?_⟩
  have:m * 4 ^ h≤es.length * 4 ^ h:=Nat.mul_le_mul_right _ h2
  rw[if_neg (by omega),Nat.mul_one,Nat.add_sub_cancel];omega
theorem He {f:Nat→List E} :∀ {ps:List Nat},Srt (ps.flatMap f)→(∀ p∈ps,f p≠[])→ps.Nodup
 | [],_,_=>by simp
 | p::ps,hs,hne=>by
  rw[List.flatMap_cons] at hs
  obtain ⟨s1,s2,s3⟩:=Srt.app.1 hs
  rw[List.nodup_cons]
  refine ⟨fun hp=> ?_,He s2 (fun q hq=>hne q (by simp[hq]))⟩
  obtain ⟨x,u,e⟩:=List.exists_cons_of_ne_nil (hne p (by simp))
  have:=s3 x (by rw[e];simp) x (List.mem_flatMap.2 ⟨p,hp,by rw[e];simp⟩)
  omega
theorem FW {n:Nat} :∀ {l:List Nat},l.Nodup→(∀ x∈l,x<n)→l.length≤n:=fun {l} h1 h2=>by
 have:=List.Nodup.length_le_of_subset (l₁:=l) (l₂:=List.range n) h1 (fun x hx=>List.mem_range.2 (h2 x hx))
 simpa using this
theorem Tr.low {n f:Nat} {N:Hm} {C:Nat→Nat} {R:List Nat} (I:TInv n f N C R) {h r:Nat} {lo hi:Int} {m:Nat} {L:List E} (t:Tr N h r lo hi m L) (hm:(if h=0 then 1 else 2)≤m) (hn:n≤511):h≤4:=by
 have hm1:1≤m:=by split at hm<;>omega
 obtain ⟨a1,a2,a3⟩:=JL t hm1
 have hs:=t.srt.1
 rw[←a1] at hs
 have hd:=He hs (fun p hp=>(a2 p hp).1)
 have hl:=FW hd (fun p hp=>by obtain ⟨d,hd⟩:=(a2 p hp).2;exact (I.nin p _ hd).2.1)
 rcases Nat.lt_or_ge h 5 with q|q
 ·omega
 ·exfalso
  rw[if_neg (by omega)] at a3 hm
  have:4 ^ 4≤4 ^ (h - 1):=Nat.pow_le_pow_right (by omega) (by omega)
  have h2:2 * 4 ^ (h - 1)≤m * 4 ^ (h - 1):=Nat.mul_le_mul_right _ hm
  simp at a3
  omega
theorem Pv {N:Hm} {h:Nat} {lo hi:Int} {L X Y:List E} {e:E} {key:Int} (hs:Srt (X++e::Y)) (hr:Bx lo hi (X++e::Y)) (hB:Bd N (h+1) (X++e::Y) hi L) (hX:X=[]∨e.1≤key) (hY:∀ x∈Y,key<x.1∧e.1<x.1):∃ Lc,Tr N h e.2 e.1 (nx Y hi) 4 Lc∧∀ v,(key,v)∈Lc↔(key,v)∈L:=by
 obtain ⟨L0,Lc,L2,rfl,h1,h2,h3⟩:=Sq.at hB
 obtain ⟨s1,s2,s3⟩:=Srt.app.1 hs
 have a1:=Sq.srt h1 s1 (fun x hx=>s3 x hx e (by simp)) (fun _ _ _ _ q=>Tr.srt q)
 have a3:=Sq.srt h3 (Srt.cons.1 s2).2 (fun x hx=>(hr x (by simp[hx])).2) (fun _ _ _ _ q=>Tr.srt q)
 refine ⟨Lc,h2,fun v=>⟨fun q=>by simp[q],fun q=> ?_⟩⟩
 rcases List.mem_append.1 q with q|q
 ·exfalso
  rcases hX with rfl|hX
  ·simp only[Sq] at h1;subst h1;simp at q
  ·have:=a1.2.1 _ q;dsimp only at this;omega
 ·rcases List.mem_append.1 q with q|q
  ·exact q
  ·exfalso
   cases Y with
   | nil=>simp only[Sq] at h3;subst h3;simp at q
   | cons y t=>
    have:=a3.2.1 _ q
    have:=hY y (by simp)
    simp only[nx] at *;omega
end
section
open Go.RowKit
variable {Tb:Ae}
theorem JM (pp mb n:Nat) (o:TB) (s:TS×List Nat):Cn prog 45 [Pt_ pp] [trA Tb pp mb n o (some s)] (fun v Γ=>v=Iv_ 0∧Γ=[trA Tb pp mb n o (some s)]):=by
 intro z R w H;replace H:=H.l1;refine Ad func45 rfl ntmps45 rfl (Zc 19 rfl (z_E_ rfl (call86 _) (Ov pp mb n o _) H ?_));intro w H;replace H:=H.l1;refine AC 6 (v:= .bool true) rfl rfl (Zc 12 rfl (Zr rfl ?_));exact ⟨_,⟨rfl,rfl⟩,H⟩
theorem Wp (pp mb n:Nat) (o:TB):Cn prog 45 [Pt_ pp] [trA Tb pp mb n o none] (fun v Γ=>v=Iv_ 18∧Γ=[trA Tb pp mb n o none]):=by
 intro z R w H;replace H:=H.l1;refine Ad func45 rfl ntmps45 rfl (Zc 19 rfl (z_E_ rfl (call86 _) (Ov pp mb n o _) H ?_));intro w H;replace H:=H.l1;refine AC 6 (v:= .bool false) rfl rfl (Zc 10 rfl (Zr rfl ?_));exact ⟨_,⟨rfl,rfl⟩,H⟩
theorem Yc (pp mb n:Nat) (o:TB) (t:TS) (Q:List Nat) (key:Int) (val:Nat) (b:List UInt8) (hkk:0≤key∧key<1048576) (hvd:t.N val=some (.dt b)) (hk:t.k<40):Cn prog 17 [Pt_ pp,Iv_ 0,Iv_ key,Iv_ (val:Int)] [trA Tb pp mb n o (some (t,val::Q))] (fun v Γ=>(cnt t.F 0 1024≤0∧∃ s:TS×List Nat,v= .tuple #[Iv_ 0,Iv_ 20]∧Γ=[trA Tb pp mb n o (some s)])∨∃ (t2:TS) (r:Nat),(St t t2 Q 1 1∧Tr t2.N 0 r 0 1048576 1 (putE key val []))∧v= .tuple #[Iv_ (r:Int),Iv_ 0]∧Γ=[trA Tb pp mb n o (some (t2,r::Q))]):=by
 intro z R w H;replace H:=H.l1;have K:=H.says 0 rfl (fun h a=>trA.k a)
 have hn:=K.hn
 have hvr:=K.i.rin val (by simp[Cb])
 have hvp:=K.i.pos (p:=val) (by simp[Cb])
 have hvp:1≤t.C val:=hvp
 obtain ⟨hb1,hb2,hb3,hb4⟩:=Ty hvd hkk;refine Ad func17 rfl ntmps17 rfl (Zc 10 rfl (z_E_ rfl (call45 _) (JM pp mb n o _) H ?_));intro w H;refine Z0 18 [4,0] rfl (Al 21 rfl (fun h1=> ?_) (fun h1=> ?_))
 ·(exfalso;omega)
 ·refine Z0 4 [0] rfl (Al 25 rfl (fun h2=> ?_) (fun h2=> ?_))
  ·(exfalso;omega)
  ·refine Zc 2 rfl (z_E_ rfl (call20 _) (Io pp mb n o _ val (by omega)) H ?_);intro w H;replace H:=H.l1;refine AC 28 (v:=Iv_ (t.C val:Int)) rfl rfl (Z0 4 [0] rfl (Af rfl (fun h3=> ?_) (fun h3=> ?_)))
   ·(exfalso;omega)
   ·refine Z0 14 [3] rfl (AM rfl (AJ H rfl (by kernel_rfl) A6 rfl (by decide) (by decide) (out:=[Iv_ key]) (by kernel_rfl)) ?_);rintro _ w ⟨b1,rfl,H⟩;replace H:=H.l2;refine Zc 1 rfl (AM rfl (AJ H rfl (by kernel_rfl) A6 rfl (by decide) (by decide) (out:=[Iv_ (val:Int)]) (by kernel_rfl)) ?_);rintro _ w ⟨b2,rfl,H⟩;replace H:=H.l3;refine Zc 1 rfl (Ax rfl (call46 _) (GG pp mb n o t Q true _ _ [(key,val)] _ _ (fun h q=>q.rd (by omega) (by omega) (by simp) rfl) (fun h q=>q.rd (by omega) (by omega) (by simp) rfl) 0 0 1048576 1 (putE key val []) hb1 rfl hb2 (by simp) hb3 hb4 hk) H.f1.f2 ?_);rintro _ w _ (⟨hnt2,rfl,rfl⟩|⟨t2,rt2,⟨hSt2,hTt2,hqt2⟩,rfl,rfl⟩) H'
    ·have H:=H'.l3;refine Zc 7 rfl (Zr rfl ?_);exact ⟨_,.inl ⟨by omega,_,rfl,rfl⟩,H.perm 3 [0] rfl rfl⟩
    ·have H:=H'.l3;refine Zc 7 rfl (Zr rfl ?_);exact ⟨_,.inr ⟨t2,rt2,⟨hSt2,hTt2⟩,rfl,rfl⟩,H.perm 3 [0] rfl rfl⟩
set_option maxHeartbeats 1000000 in
theorem Yd (pp mb n:Nat) (o:TB) (t:TS) (Q:List Nat) (h a:Nat) (m:Nat) (key:Int) (val:Nat) (L:List E) (hP:InsPre n t Q a h 0 1048576 m key val L):Cn prog 17 [Pt_ pp,Iv_ (a:Int),Iv_ key,Iv_ (val:Int)] [trA Tb pp mb n o (some (t,a::val::Q))] (fun v Γ=>(cnt t.F 0 1024≤2 * h+2∧∃ s:TS×List Nat,v= .tuple #[Iv_ 0,Iv_ 20]∧Γ=[trA Tb pp mb n o (some s)])∨∃ (t2:TS) (r:Nat),(St t t2 Q (2 * h+3) (3 * h+4)∧(Tr t2.N h r 0 1048576 m (putE key val L)∨Tr t2.N (h+1) r 0 1048576 2 (putE key val L)))∧v= .tuple #[Iv_ (r:Int),Iv_ 0]∧Γ=[trA Tb pp mb n o (some (t2,r::Q))]):=by
 intro z R w H;replace H:=H.l1;have K:=H.says 0 rfl (fun h a=>trA.k a)
 have hn:=K.hn
 have hkk:=hP.kk
 have hvr:=K.i.rin val (by simp[Cb])
 have hvp:=K.i.pos (p:=val) (by simp[Cb])
 have hvp:1≤t.C val:=hvp
 have har:=K.i.rin a (by simp[Cb])
 refine Ad func17 rfl ntmps17 rfl (Zc 10 rfl (z_E_ rfl (call45 _) (JM pp mb n o _) H ?_));intro w H;refine Z0 18 [4,0] rfl (Al 21 rfl (fun h1=> ?_) (fun h1=> ?_))
 ·(exfalso;omega)
 ·refine Z0 4 [0] rfl (Al 25 rfl (fun h2=> ?_) (fun h2=> ?_))
  ·(exfalso;omega)
  ·refine Zc 2 rfl (z_E_ rfl (call20 _) (Io pp mb n o _ val (by omega)) H ?_);intro w H;replace H:=H.l1;refine AC 28 (v:=Iv_ (t.C val:Int)) rfl rfl (Z0 4 [0] rfl (Af rfl (fun h3=> ?_) (fun h3=> ?_)))
   ·(exfalso;omega)
   ·refine Z0 9 [0] rfl (Af rfl (fun h4=> ?_) (fun h4=> ?_))
    ·(exfalso;omega)
    ·refine Zc 8 rfl (Ax rfl (call47 _) (M8 pp mb n o h t Q a 0 1048576 m key val L hP) H ?_);rintro _ w _ (⟨hf2,s2,rfl,rfl⟩|⟨t2,c2,⟨hSt2,hT2⟩,rfl,rfl⟩|⟨t2,c2,kr,r,M1,M2,⟨hSt2,hLs,hk1,hk2,hT2,hT3⟩,rfl,rfl⟩) H'
     ·have H:=H'.l1;refine Za 3 [] H rfl ?_;intro b1 w H;refine Z4 27 [0,3,0,0,0] H rfl ?_;intro w H;refine Zr rfl ?_;exact ⟨_,.inl ⟨by omega,_,rfl,rfl⟩,H.perm 2 [1] rfl rfl⟩
     ·have H:=H'.l1;refine Za 3 [] H rfl ?_;intro b2 w H;refine Z4 27 [0,4,2,0,0,3,0,0,0] H rfl ?_;intro w H;refine Zr rfl ?_;exact ⟨_,.inr ⟨t2,c2,⟨hSt2.sub (fun p hp=>hp) (by omega) (by omega),.inl hT2⟩,rfl,rfl⟩,H.perm 2 [1] rfl rfl⟩
     ·have H:=H'.l1;refine Za 3 [] H rfl ?_;intro b3 w H;refine Z4 6 [0] H rfl ?_;intro w H;have hr0:manyN n+1≤r:=by have K3:=H.says 1 rfl (fun h a=>trA.k a);exact (K3.i.rin r (by simp[Cb])).1
      refine Z2 10 [4,2,0,0,0] H rfl (Af rfl (fun h5=> ?_) (fun h5=> ?_))
      ·(exfalso;omega)
      ·refine Zc 3 rfl ?_;obtain ⟨es,hNc,hmc,hrc,hoc,hBc⟩:=Tr.iff.1 hT2;obtain ⟨hb1,hb2,hb3,hb4⟩:=root_two hT2 hNc hT3 hk2;refine Z2 4 [0,0,0] H rfl (Ax rfl (call24 _) (FV pp mb n o (some (t2,c2::r::Q)) c2 (decide (h=0)) es hNc) H.f1 ?_);rintro _ w _ ⟨v4,v5,rfl,rfl⟩ H;replace H:=H.l4;have sv4:=H.says 0 rfl (fun h q=>q.slc)
       have sv5:=H.says 1 rfl (fun h q=>q.slc)
       refine Za 3 [] H rfl ?_;intro b6 w H;refine AB rfl rfl (Ai 0 H rfl rfl rfl rfl (vs:=[.bool (decide (h=0)),v4,v5]) rfl (Ac rfl (Ac sv4.one (Ac sv5.one Au))) (by kernel_rfl) (by simp) (out:=[.bool (decide (h=0)),v4,v5]) rfl) ?_;rintro w H;replace H:=H.l5;refine Z0 14 [4] rfl ?_;obtain ⟨ao1,cc1,rfl⟩:=sv4;have hat:=(H.rd 1 rfl (fun h q=>q.rd)).at (j:=0) (u:=Iv_ (nx es kr)) (by rw[List.getElem?_map,EJ hmc];rfl)
       replace H:=H.f1.f1.f4;refine AI (Sep z (blk b3 [Iv_ (c2:Int),Iv_ kr,Iv_ (r:Int)] 94::blk b6 [.bool (decide (h=0)),.slice ao1 ((kL es).length) cc1,v5] 54::grow 3 1 (.slice ao1 ((kL es).length) cc1) ((kL es).length) ((kL es).map Iv_)::R)) 19 rfl (by kernel_rfl) (A9 H fun w H'=> ?_)
       have H:=H'.l5;refine AN [0,1,2] [1,1,0] [] (by exact (H.pick 5 [0,1,2] rfl)) rfl (by kernel_rfl) rfl (BC 3 rfl (by kernel_rfl) (by kernel_rfl) (by kernel_rfl) rfl rfl rfl (Aj rfl (z:=1) (j:=0) (r:=0) (by kernel_rfl) rfl rfl rfl (by simp only[List.length_map];omega) hat (by omega)) (H.pick 5 [0,1,2] rfl) (BC 4 rfl (by kernel_rfl) (by kernel_rfl) (by kernel_rfl) rfl rfl rfl (Av rfl rfl (by kernel_rfl) (fun _ hx'=>(hx'.rd 2 rfl (fun h q=>q.rd)).at (j:=0) (u:=Iv_ (nx es kr)) (by rw[List.getElem?_map,EJ hmc];rfl))) (H.pick 5 [0,1,2] rfl) ?_));refine AN [5,6,8,9,10,11] [1,0,0,0,0,0,2,0,0] [] (by exact (H.pick 5 [0,1,2] rfl)) rfl (by kernel_rfl) rfl (Az [7,12] (by kernel_rfl) (by simp) (JP ?_ ?_))
       ·refine B7 rfl rfl rfl rfl (AJ H rfl (by kernel_rfl) A6 rfl (by decide) (by decide) (out:=[Iv_ (nx es kr),Iv_ kr]) (by kernel_rfl)) ?_;rintro _ w ⟨b7,rfl,H⟩;replace H:=H.l6;refine Ap (H.pick 6 [1,2,3] rfl) (Az [12] (by kernel_rfl) (by simp) (Ay (B7 rfl rfl rfl rfl (AJ H rfl (by kernel_rfl) A6 rfl (by decide) (by decide) (out:=[Iv_ (c2:Int),Iv_ (r:Int)]) (by kernel_rfl)) ?_)));rintro _ w ⟨b8,rfl,H⟩;replace H:=H.l7;refine Ap (H.pick 7 [2,3,4] rfl) (AN [13] [] [] (by exact (H.pick 7 [2,3,4] rfl)) rfl (by kernel_rfl) rfl (Az [14] (by kernel_rfl) (by simp) (Ay (BH rfl rfl rfl rfl rfl rfl (fun w=>call46 _ w) (GG pp mb n o t2 Q false _ _ [(nx es kr,c2),(kr,r)] _ _ (fun h q=>q.rd (by omega) (by omega) (by simp) rfl) (fun h q=>q.rd (by omega) (by omega) (by simp) rfl) (h+1) 0 1048576 2 (putE key val L) (by rw[hLs];exact hb1) (by simp) hb2 (by simp) hb3 hb4 (by have:=hSt2.k;have:=hP.hk;omega)) H.f1.f6 rfl ?_))));rintro _ w _ (⟨hnt3,rfl,rfl⟩|⟨t3,rt3,⟨hSt3,hTt3,hqt3⟩,rfl,rfl⟩) H'
        ·have H:=H'.l7;refine Ap (H.pick 7 [3,4,5] rfl) (AN [15,16,17,18] [] [] (by exact (H.pick 7 [3,4,5] rfl)) rfl (by kernel_rfl) rfl (a_done (by kernel_rfl) (gn (Zc 2 rfl (Zr rfl ?_)))));exact ⟨_,.inl ⟨by have:=hSt2.f;omega,_,rfl,rfl⟩,H.perm 7 [0] rfl rfl⟩
        ·have H:=H'.l7;refine Ap (H.pick 7 [3,4,5] rfl) (AN [15,16,17,18] [] [] (by exact (H.pick 7 [3,4,5] rfl)) rfl (by kernel_rfl) rfl (a_done (by kernel_rfl) (gn (Zc 2 rfl (Zr rfl ?_)))));exact ⟨_,.inr ⟨t3,rt3,⟨hSt2.trans hSt3 (fun p hp=>hp) (fun p hp=>hp) (by omega) (by omega),.inr hTt3⟩,rfl,rfl⟩,H.perm 7 [0] rfl rfl⟩
       ·refine B7 rfl rfl rfl rfl (AJ H rfl (by kernel_rfl) A6 rfl (by decide) (by decide) (out:=[Iv_ (c2:Int),Iv_ (r:Int)]) (by kernel_rfl)) ?_;rintro _ w ⟨b9,rfl,H⟩;replace H:=H.l6;refine Ap (H.pick 6 [1,2,3] rfl) (Az [7] (by kernel_rfl) (by simp) (Ay (B7 rfl rfl rfl rfl (AJ H rfl (by kernel_rfl) A6 rfl (by decide) (by decide) (out:=[Iv_ (nx es kr),Iv_ kr]) (by kernel_rfl)) ?_)));rintro _ w ⟨b10,rfl,H⟩;replace H:=H.l7;refine Ap (H.pick 7 [2,3,4] rfl) (AN [13] [] [] (by exact (H.pick 7 [2,3,4] rfl)) rfl (by kernel_rfl) rfl (Az [14] (by kernel_rfl) (by simp) (Ay (BH rfl rfl rfl rfl rfl rfl (fun w=>call46 _ w) (GG pp mb n o t2 Q false _ _ [(nx es kr,c2),(kr,r)] _ _ (fun h q=>q.rd (by omega) (by omega) (by simp) rfl) (fun h q=>q.rd (by omega) (by omega) (by simp) rfl) (h+1) 0 1048576 2 (putE key val L) (by rw[hLs];exact hb1) (by simp) hb2 (by simp) hb3 hb4 (by have:=hSt2.k;have:=hP.hk;omega)) H.f1.f1.f6 rfl ?_))));rintro _ w _ (⟨hnt3,rfl,rfl⟩|⟨t3,rt3,⟨hSt3,hTt3,hqt3⟩,rfl,rfl⟩) H'
        ·have H:=H'.l7;refine Ap (H.pick 7 [3,4,5] rfl) (AN [15,16,17,18] [] [] (by exact (H.pick 7 [3,4,5] rfl)) rfl (by kernel_rfl) rfl (a_done (by kernel_rfl) (gn (Zc 2 rfl (Zr rfl ?_)))));exact ⟨_,.inl ⟨by have:=hSt2.f;omega,_,rfl,rfl⟩,H.perm 7 [0] rfl rfl⟩
        ·have H:=H'.l7;refine Ap (H.pick 7 [3,4,5] rfl) (AN [15,16,17,18] [] [] (by exact (H.pick 7 [3,4,5] rfl)) rfl (by kernel_rfl) rfl (a_done (by kernel_rfl) (gn (Zc 2 rfl (Zr rfl ?_)))));exact ⟨_,.inr ⟨t3,rt3,⟨hSt2.trans hSt3 (fun p hp=>hp) (fun p hp=>hp) (by omega) (by omega),.inr hTt3⟩,rfl,rfl⟩,H.perm 7 [0] rfl rfl⟩
end
section
open Go.RowKit
variable {Tb:Ae}
theorem OB (pp mb n:Nat) (o:TB) (T:TT) (key:Int) (L:List E) (h0 r0:Nat) (lo0 hi0:Int) (m0:Nat) (hT0:Tr (DQ o T) h0 r0 lo0 hi0 m0 L):Cn prog 14 [Pt_ pp,Iv_ (r0:Int),Iv_ key] [trA Tb pp mb n o T] (fun v Γ=>((∃ v0:Nat,(key,v0)∈L∧v= .tuple #[Iv_ (v0:Int),Iv_ 0])∨(¬ Cy key L∧v= .tuple #[Iv_ 0,Iv_ 0]))∧Γ=[trA Tb pp mb n o T]):=by
 intro z R w H;replace H:=H.l1;have K:=H.says 0 rfl (fun h a=>trA.k a)
 have hn:=K.hn
 refine Ad func14 rfl ntmps14 rfl (Zc 18 rfl ?_);refine AG (σ:=Nat×Nat×List E) (fun ⟨h,r,L1⟩=>[(1,Iv_ (r:Int)),(0,Pt_ pp),(2,Iv_ key)])
   (fun ⟨h,r,L1⟩ w=>Sep z (trA Tb pp mb n o T::R) w∧((∃ lo hi m,Tr (DQ o T) h r lo hi m L1)∧∀ v,(key,v)∈L1↔(key,v)∈L)) (fun ⟨h,r,L1⟩=>h) ⟨h0,r0,L⟩
   (fun _ hF=>(hF.all rfl)) ⟨H,⟨⟨_,_,_,hT0⟩,fun _=>Iff.rfl⟩⟩ ?_
 clear H;rintro ⟨h,r,L1⟩ w ⟨H',hI⟩;dsimp only at hI H' ⊢
 have H:=H'.l1;obtain ⟨⟨lo,hi,m,hT⟩,hiff⟩:=hI;obtain ⟨es,hN,hm,hrg,hok,hBd⟩:=Tr.iff.1 hT;have hnr:=K.i.nin r _ hN
 refine Z0 7 [0] rfl (Af rfl (fun h1=> ?_) (fun h1=> ?_))
 ·refine Zc 7 rfl (Ax rfl (call24 _) (FV pp mb n o T r (decide (h=0)) es hN) H ?_);rintro _ w _ ⟨v1,v2,rfl,rfl⟩ H;replace H:=H.l3;have sv1:=H.says 0 rfl (fun h q=>q.slc)
  have sv2:=H.says 1 rfl (fun h q=>q.slc)
  refine Za 3 [] H rfl ?_;intro b1 w H;refine AB rfl rfl (Ai 0 H rfl rfl rfl rfl (vs:=[.bool (decide (h=0)),v1,v2]) rfl (Ac rfl (Ac sv1.one (Ac sv2.one Au))) (by kernel_rfl) (by simp) (out:=[.bool (decide (h=0)),v1,v2]) rfl) ?_;rintro w H;replace H:=H.l4;refine Z2 20 [4,0,0,0] H rfl (DW rfl (fun h2=> ?_) (fun h2=> ?_))
  ·have hh0:h=0:=of_decide_eq_true h2
   have hLe:L1=es:=by subst hh0;exact hBd.1
   refine Z2 5 [0,3] H rfl (Ax rfl (call43 _) (M5 (es:=es) (fun h q=>q.rd) (fun h q=>q.rd) hok.len hok.srt key) H.f2.f2 ?_);rintro _ w _ (⟨X,v0,Y,⟨hes,hX⟩,rfl,rfl⟩|⟨hno,i0,rfl,rfl⟩) H'
   ·have H:=H'.l4;refine Zc 14 rfl ?_;obtain ⟨ao2,cc2,rfl⟩:=sv2;have hat:=(H.rd 1 rfl (fun h q=>q.rd)).at (j:=X.length) (u:=Iv_ (v0:Int)) (by rw[hes];simp[vL])
    refine Z2 4 [2,2,0] H rfl (Ab rfl (Aj rfl (z:=1) (j:=X.length) (r:=X.length) (by kernel_rfl) rfl rfl rfl (by rw[hes];simp) hat (by omega)) (Ab rfl (Av rfl rfl (by kernel_rfl) (Aq hat)) (Zc 5 rfl (Zr rfl ?_))));exact ⟨_,⟨.inl ⟨v0,(hiff v0).1 (by rw[hLe,hes];simp),rfl⟩,rfl⟩,H.perm 4 [3] rfl rfl⟩
   ·have H:=H'.l4;refine Zc 22 rfl (Zr rfl ?_);exact ⟨_,⟨.inr ⟨fun ⟨v,hv⟩=>hno ⟨v,by rw[←hLe];exact (hiff v).2 hv⟩,rfl⟩,rfl⟩,H.perm 4 [3] rfl rfl⟩
  ·obtain ⟨h',rfl⟩:∃ h',h=h'+1:=⟨h - 1,by have:=of_decide_eq_false h2;omega⟩;refine Zc 2 rfl ?_;obtain ⟨ao2,cc2,rfl⟩:=sv2;replace H:=H.f2.f1;refine AI (Sep z (blk b1 [.bool (decide ((h'+1)=0)),v1,.slice ao2 ((vL es).length) cc2] 54::grow 3 1 (.slice ao2 ((vL es).length) cc2) ((vL es).length) ((vL es).map Iv_)::R)) 8 rfl (by kernel_rfl) (A9 H fun w H'=> ?_)
   have H:=H'.l4;refine AN [0,1,2,3] [2,0,0,0,3] [] (by exact (H.pick 4 [0,1] rfl)) rfl (by kernel_rfl) rfl (Az [4] (by kernel_rfl) (by simp) (Ay (BH rfl rfl rfl rfl rfl rfl (fun w=>call44 _ w) (Kt (es:=es) (fun h q=>q.rd) (fun h q=>q.rd) hok.len hok.srt (hok.ne (by simp)) key) H.f1.f2 rfl ?_)));rintro _ w _ ⟨X,e,Y,⟨hes,hX,hXe,hY⟩,rfl,rfl⟩ H;replace H:=H.l4;obtain ⟨Lc,hTc,hLc⟩:=Pv (by rw[←hes];exact hok.srt) (by rw[←hes];exact hrg) (by rw[←hes];exact hBd) hX hY;have hat:=(H.rd 1 rfl (fun h q=>q.rd)).at (j:=X.length) (u:=Iv_ (e.2:Int)) (by rw[hes];simp[vL])
   refine Ap (H.pick 4 [2,1] rfl) (BC 5 rfl (by kernel_rfl) (by kernel_rfl) (by kernel_rfl) rfl rfl rfl (Aj rfl (z:=1) (j:=X.length) (r:=X.length) (by kernel_rfl) rfl rfl rfl (by rw[hes];simp) hat (by omega)) (H.pick 4 [2,1] rfl) (BC 6 rfl (by kernel_rfl) (by kernel_rfl) (by kernel_rfl) rfl rfl rfl (Av rfl rfl (by kernel_rfl) (fun _ hx'=>(hx'.rd 1 rfl (fun h q=>q.rd)).at (j:=X.length) (u:=Iv_ (e.2:Int)) (by rw[hes];simp[vL]))) (H.pick 4 [2,1] rfl) (AN [7] [] [] (by exact (H.pick 4 [2,1] rfl)) rfl (by kernel_rfl) rfl (a_done (by kernel_rfl) (gn (Zc 1 rfl ?_))))));replace H:=H.f2.d.f1.d.d;refine gf ?_;intro _ hF;refine ⟨⟨h',e.2,Lc⟩,(hF.all rfl),⟨H,?_⟩,?_⟩
   ·exact ⟨⟨_,_,_,hTc⟩,fun v=>(hLc v).trans (hiff v)⟩
   ·(dsimp only;omega)
 ·(exfalso;omega)
theorem OC (pp:Nat) (key:Int):Cn prog 14 [Pt_ pp,Iv_ 0,Iv_ key] [] (fun v Γ=>v= .tuple #[Iv_ 0,Iv_ 0]∧Γ=[]):=by
 intro z R w H;replace H:=H.l0;refine Ad func14 rfl ntmps14 rfl (Zc 18 rfl (FH 1 (CR (Z0 10 [4] rfl (gx (Zc 9 rfl (Zr rfl ?_)))))));exact ⟨_,⟨rfl,rfl⟩,H⟩
end
section
open Go.RowKit
variable {Tb:Ae}
theorem Bd.nd {N:Hm} {h:Nat} {es:List E} {hi:Int} {L:List E} (q:Bd N h es hi L) (hs:Srt es) (hr:∀ e∈es,e.1<hi) (hd:(vals L).Nodup):(vals es).Nodup:=by
 cases h with
 | zero=>obtain ⟨rfl,_⟩:=q;exact hd
 | succ h=>exact Bd.nodup q hs hr
theorem CX (a:Nat) (X Y:List E):(vals (X++Y)).count a=(vals X).count a+(vals Y).count a:=by simp[vals]
theorem Dm (a:Nat) (e:E) (Y:List E):(vals (e::Y)).count a=(vals Y).count a+if e.2 == a then 1 else 0:=by rw[BE,List.count_cons]
theorem ZP (X Y:List E) (e1 e2:E) (Q:List Nat):(vals (X++e1::e2::Y)++Q).Perm (e1.2::(vals X++(e2.2::(vals Y++Q)))):=
 List.perm_iff_count.2 fun a=>by
  simp only[List.count_append,List.count_cons,CX,Dm];omega
theorem ZQ (c1 c2:Nat) (A B D:List Nat):(c1::(A++(B++(c2::D)))).Perm (c2::(c1::(A++(B++D)))):=
 List.perm_iff_count.2 fun a=>by simp only[List.count_append,List.count_cons];omega
theorem ZR (c1 c2:Nat) (es1 es2 x y:List E) (W:List Nat) (h:es1++es2=x++y):(c2::(vals es2++(c1::(vals es1++W)))).Perm (c1::(vals x++(c2::(vals y++W)))):=
 List.perm_iff_count.2 fun a=>by
  have e:=congrArg (fun l=>(vals l).count a) h
  simp only[CX] at e
  simp only[List.count_append,List.count_cons];omega
theorem ZF (c1 c2:Nat) (es1 es2:List E) (W:List Nat):(c2::(vals es2++(c1::(vals es1++W)))).Perm (c1::(vals (es1++es2)++(c2::W))):=
 List.perm_iff_count.2 fun a=>by simp only[List.count_append,List.count_cons,CX];omega
theorem ZS (c1 c2:Nat) (A W:List Nat):(c1::(c2::(A++W))).Perm (c2::(A++(c1::W))):=
 List.perm_iff_count.2 fun a=>by simp only[List.count_append,List.count_cons];omega
theorem ZT (c1:Nat) (k:Int) (X Y:List E) (Q:List Nat):(c1::(vals X++(vals Y++Q))).Perm (vals (X++(k,c1)::Y)++Q):=
 List.perm_iff_count.2 fun a=>by simp only[List.count_append,List.count_cons,CX,Dm];omega
theorem ZU (c1 c2:Nat) (k k2:Int) (X Y:List E) (Q:List Nat):(c2::(c1::(vals X++(vals Y++Q)))).Perm (vals (X++(k,c1)::(k2,c2)::Y)++Q):=
 List.perm_iff_count.2 fun a=>by simp only[List.count_append,List.count_cons,CX,Dm];omega
structure MnPre (n:Nat) (t:TS) (Q:List Nat) (h:Nat) (lo hi:Int) (X Y:List E) (e1 e2:E) (m1 m2:Nat) (L0 La Lb L2:List E):Prop where
 ok:(Nd.mk false (X++e1::e2::Y)).Ok
 r:Bx lo hi (X++e1::e2::Y)
 q0:Sq (fun c a b L=>Tr t.N h c a b 4 L) X e1.1 L0
 ta:Tr t.N h e1.2 e1.1 e2.1 m1 La
 tb:Tr t.N h e2.2 e2.1 (nx Y hi) m2 Lb
 q2:Sq (fun c a b L=>Tr t.N h c a b 4 L) Y hi L2
 m3:3≤m1∧3≤m2∧7≤m1+m2
 l0:0≤lo
 h1:hi≤1048576
 d:(vals (La++Lb)).Nodup
 hk:t.k+5<40
 hb:Q.length+30+n≤980
variable {t t1 t2 t3:TS} {Q:List Nat} {h:Nat} {lo hi:Int} {X Y:List E} {e1 e2:E} {L0 La Lb L2 es1 es2:List E}
theorem Q9 (ok:Srt (X++e1::e2::Y)) (r:Bx lo hi (X++e1::e2::Y)):e1.1<e2.1∧e2.1<nx Y hi∧nx Y hi≤hi∧lo≤e1.1:=by
 obtain ⟨_,s2,_⟩:=Srt.app.1 ok
 obtain ⟨s3,s4⟩:=Srt.cons.1 s2
 have h2:=r e2 (by simp)
 refine ⟨s3 e2 (by simp),?_,Pr (fun x hx=>(r x (by simp[hx])).2),(r e1 (by simp)).1⟩
 cases Y with
 | nil=>exact h2.2
 | cons y u=>exact (Srt.cons.1 s4).1 y (by simp)
theorem Wq {N:Hm} (b1:Bd N h es1 e2.1 La) (b2:Bd N h es2 (nx Y hi) Lb) (s1:Srt es1) (s2:Srt es2) (r1:Bx e1.1 e2.1 es1) (r2:Bx e2.1 (nx Y hi) es2) (hne:es2≠[]) (h12:e1.1<e2.1) (h2:e2.1<nx Y hi):
  Bd N h (es1++es2) (nx Y hi) (La++Lb)∧Srt (es1++es2)∧Bx e1.1 (nx Y hi) (es1++es2):=by
 refine ⟨Bd.app.2 ⟨La,Lb,rfl,b1.hi ?_,b2⟩,Srt.app.2 ⟨s1,s2,fun a ha b hb=> ?_⟩,fun x hx=> ?_⟩
 ·obtain ⟨y,u,rfl⟩:=List.exists_cons_of_ne_nil hne
  exact (r2 y (by simp)).1
 ·have:=r1 a ha;have:=r2 b hb;omega
 ·rcases List.mem_append.1 hx with hx|hx
  ·have:=r1 x hx;omega
  ·have:=r2 x hx;omega
theorem OD {N:Hm} {c1:Nat} (ok:(Nd.mk false (X++e1::e2::Y)).Ok) (r:Bx lo hi (X++e1::e2::Y)) (q0:Sq (fun c a b L=>Tr N h c a b 4 L) X e1.1 L0) (q2:Sq (fun c a b L=>Tr N h c a b 4 L) Y hi L2) (T:Tr N h c1 e1.1 (nx Y hi) 4 (La++Lb)):
  Bd N (h+1) (X++(e1.1,c1)::Y) hi (L0++(La++(Lb++L2)))∧Bx lo hi (X++(e1.1,c1)::Y)∧(Nd.mk false (X++(e1.1,c1)::Y)).Ok∧(vals (X++(e1.1,c1)::Y)).Nodup:=by
 have hs:Srt (X++e1::e2::Y):=ok.srt
 obtain ⟨s1,s2,s3⟩:=Srt.app.1 hs
 obtain ⟨s4,s5⟩:=Srt.cons.1 s2
 have hs':Srt (X++(e1.1,c1)::Y):=Srt.app.2 ⟨s1,Srt.cons.2 ⟨fun x hx=>s4 x (by simp[hx]),(Srt.cons.1 s5).2⟩,fun a ha b hb=>by
  rcases List.mem_cons.1 hb with rfl|hb
  ·exact s3 a ha e1 (by simp)
  ·exact s3 a ha b (by simp[hb])⟩
 have hr':Bx lo hi (X++(e1.1,c1)::Y):=fun x hx=>by
  rcases List.mem_append.1 hx with hx|hx
  ·exact r x (by simp[hx])
  ·rcases List.mem_cons.1 hx with rfl|hx
   ·exact r e1 (by simp)
   ·exact r x (by simp[hx])
 have hB:Bd N (h+1) (X++(e1.1,c1)::Y) hi (L0++(La++(Lb++L2))):=by
  have e:L0++(La++(Lb++L2))=L0++((La++Lb)++L2):=by simp
  rw[e];exact Sq.mk (e:=(e1.1,c1)) q0 T q2
 have hl:(X++e1::e2::Y).length≤8:=ok.len
 refine ⟨hB,hr',⟨hs',by simp at hl ⊢;omega,fun x hx=> ?_,fun _=>by simp⟩,hB.nodup hs' (fun x hx=>(hr' x hx).2)⟩
 rcases List.mem_append.1 hx with hx|hx
 ·exact ok.key x (by simp[hx])
 ·rcases List.mem_cons.1 hx with rfl|hx
  ·exact ok.key e1 (by simp)
  ·exact ok.key x (by simp[hx])
theorem mn_share {N:Hm} {c1 c2:Nat} {ky:Int} {M1 M2:List E} (ok:(Nd.mk false (X++e1::e2::Y)).Ok) (r:Bx lo hi (X++e1::e2::Y)) (q0:Sq (fun c a b L=>Tr N h c a b 4 L) X e1.1 L0) (q2:Sq (fun c a b L=>Tr N h c a b 4 L) Y hi L2) (T1:Tr N h c1 e1.1 ky 4 M1) (T2:Tr N h c2 ky (nx Y hi) 4 M2) (hM:M1++M2=La++Lb) (hk1:e1.1<ky) (hk2:ky<nx Y hi) (h1:hi≤1048576):
  Bd N (h+1) (X++(e1.1,c1)::(ky,c2)::Y) hi (L0++(La++(Lb++L2)))∧Bx lo hi (X++(e1.1,c1)::(ky,c2)::Y)∧(Nd.mk false (X++(e1.1,c1)::(ky,c2)::Y)).Ok∧(vals (X++(e1.1,c1)::(ky,c2)::Y)).Nodup:=by
 have hs:Srt (X++e1::e2::Y):=ok.srt
 obtain ⟨s1,s2,s3⟩:=Srt.app.1 hs
 obtain ⟨s4,s5⟩:=Srt.cons.1 s2
 obtain ⟨_,_,hhi,hlo⟩:=Q9 hs r
 have hsY:=(Srt.cons.1 s5).2
 have hkY:∀ x∈Y,ky<x.1:=fun x hx=>by
  cases Y with
  | nil=>simp at hx
  | cons y u=>
   simp only[nx] at hk2
   rcases List.mem_cons.1 hx with rfl|hx
   ·exact hk2
   ·have:=(Srt.cons.1 hsY).1 x hx;omega
 have hs':Srt (X++(e1.1,c1)::(ky,c2)::Y):=Srt.app.2 ⟨s1,Srt.cons.2 ⟨fun x hx=>by
   rcases List.mem_cons.1 hx with rfl|hx
   ·exact hk1
   ·exact s4 x (by simp[hx]),Srt.cons.2 ⟨hkY,hsY⟩⟩,fun a ha b hb=>by
  have ha1:=s3 a ha e1 (by simp)
  rcases List.mem_cons.1 hb with rfl|hb
  ·exact ha1
  ·rcases List.mem_cons.1 hb with rfl|hb
   ·dsimp only;omega
   ·exact s3 a ha b (by simp[hb])⟩
 have hall:∀ x∈X++(e1.1,c1)::(ky,c2)::Y,lo≤x.1∧x.1<hi:=fun x hx=>by
  rcases List.mem_append.1 hx with hx|hx
  ·exact r x (by simp[hx])
  ·rcases List.mem_cons.1 hx with rfl|hx
   ·exact r e1 (by simp)
   ·rcases List.mem_cons.1 hx with rfl|hx
    ·dsimp only;omega
    ·exact r x (by simp[hx])
 have hB:Bd N (h+1) (X++(e1.1,c1)::(ky,c2)::Y) hi (L0++(La++(Lb++L2))):=by
  have e:L0++(La++(Lb++L2))=L0++(M1++(M2++L2)):=by
   rw[←List.append_assoc La,←hM];simp
  rw[e];exact Sq.mk (e:=(e1.1,c1)) (B:=(ky,c2)::Y) q0 T1 ⟨M2,L2,rfl,T2,q2⟩
 have hl:(X++e1::e2::Y).length≤8:=ok.len
 have k1:=ok.key e1 (by simp)
 refine ⟨hB,hall,⟨hs',by simp at hl ⊢;omega,fun x hx=> ?_,fun _=>by simp⟩,hB.nodup hs' (fun x hx=>(hall x hx).2)⟩
 rcases List.mem_append.1 hx with hx|hx
 ·exact ok.key x (by simp[hx])
 ·rcases List.mem_cons.1 hx with rfl|hx
  ·exact k1
  ·rcases List.mem_cons.1 hx with rfl|hx
   ·dsimp only
    omega
   ·exact ok.key x (by simp[hx])
section
variable {lf:Bool} {kv1 vv1 kv2 vv2:Value} {es1 es2:List E} {A1 B1 A2 B2:Ae}
theorem Wr (hA1:Fk A1 kv1 es1) (hB1:Fl B1 vv1 es1) (hA2:Fk A2 kv2 es2) (hB2:Fl B2 vv2 es2) (hck1:CkN lf (kL es1) (vL es1)) (hck2:CkN lf (kL es2) (vL es2)) (hs:Srt (es1++es2)) (h8:8<es1.length+es2.length) (x y:List E) (hx:x=(es1++es2).take (EN es1 es2)) (hy:y=(es1++es2).drop (EN es1 es2)):
  Cn prog 138 [CN lf kv1 vv1,CN lf kv2 vv2] [A1,B1,A2,B2] (fun v Γ=>∃ v1 v2 v3 v4:Value,v= .tuple #[CN lf v1 v2,CN lf v3 v4,Iv_ 0]∧Γ=[gK v1 x,gV v2 x,gK v3 y,gV v4 y,A1,B1,A2,B2]):=by
 subst hx hy;exact Wi hA1 hB1 hA2 hB2 hck1 hck2 hs h8
end
theorem I5 (X:List E):(vals X).length=X.length:=by simp[vals]
theorem OE {α:Type} (x:List α) (a b:α) (y:List α):(x++a::b::y).take (x.length+1)++(x++a::b::y).drop (x.length+1+1)=x++a::y:=by
 have e1:x++a::b::y=(x++[a])++(b::y):=by simp
 have e2:x++a::b::y=(x++[a,b])++y:=by simp
 have h1:(x++a::b::y).take (x.length+1)=x++[a]:=by rw[e1];exact List.take_left' (by simp)
 have h2:(x++a::b::y).drop (x.length+1+1)=y:=by rw[e2];exact List.drop_left' (by simp)
 rw[h1,h2];simp
theorem Ws {lf:Bool} {kv vv:Value} {X Y:List E} {a b:E} {A B:Ae} (hA:Fk A kv (X++a::b::Y)) (hB:Fl B vv (X++a::b::Y)) (hck:CkN lf (kL (X++a::b::Y)) (vL (X++a::b::Y))) (hck2:CkN lf (kL (X++a::Y)) (vL (X++a::Y))):
  Cn prog 91 [CN lf kv vv,Iv_ ((X.length+1:Nat):Int)] [A,B] (fun v Γ=>∃ v1 v2:Value,v= .tuple #[CN lf v1 v2,Iv_ 0]∧Γ=[gK v1 (X++a::Y),gV v2 (X++a::Y),A,B]):=
 On lf kv vv _ _ A B hA hB hck (X.length+1) (by simp[kL]) (kL (X++a::Y)) (vL (X++a::Y)) (by simp only[kL,List.map_append,List.map_cons];have:=OE (X.map Prod.fst) a.1 b.1 (Y.map Prod.fst);rw[List.length_map] at this;exact this) (by simp only[vL,List.map_append,List.map_cons];have:=OE (X.map fun e=>(e.2:Int)) (a.2:Int) (b.2:Int) (Y.map fun e=>(e.2:Int));rw[List.length_map] at this;exact this) hck2
theorem Sq.st {t t':TS} {R:List Nat} {a b:Nat} (S:St t t' R a b) {h:Nat} {X:List E} {hi:Int} {L:List E} (hv:∀ v∈vals X,v∈R) (q:Sq (fun c a b L=>Tr t.N h c a b 4 L) X hi L):Sq (fun c a b L=>Tr t'.N h c a b 4 L) X hi L:=
 Sq.imp q fun x hx _ _ q=>S.fr _ (hv _ (List.mem_map_of_mem hx)) _ _ _ _ _ q
theorem St.t4 {t0 t1 t2 t3 t4:TS} {R1 R2 R3 R4 Q:List Nat} {k4:Nat} (a:St t0 t1 R1 1 1) (b:St t1 t2 R2 1 1) (c:St t2 t3 R3 0 1) (d:St t3 t4 R4 0 k4) (hk:k4≤1) (h1:∀ p∈Q,p∈R1) (h2:∀ p∈Q,p∈R2) (h3:∀ p∈Q,p∈R3) (h4:∀ p∈Q,p∈R4):St t0 t4 Q 2 4:=
 ((a.trans b h1 h2 (Nat.le_refl _) (Nat.le_refl _)).trans (c.trans d h3 h4 (Nat.le_refl _) (Nat.le_refl _)) (R:=Q) (R1:=Q) (R2:=Q) (fun _ q=>q) (fun _ q=>q) (by omega) (by omega))
abbrev Ye (Tb:Ae) (pp mb n:Nat) (o:TB) (t:TS) (Q:List Nat) (h:Nat) (lo hi:Int) (N8:Nat) (L:List E) (v:Value) (Γ:List Ae):Prop:=
 (cnt t.F 0 1024≤1∧∃ (v1 v2:Value) (es':List E) (s:TS×List Nat),v= .tuple #[CN false v1 v2,.int .i64 20]∧Γ=[gK v1 es',gV v2 es',trA Tb pp mb n o (some s)])∨
 ∃ (t2:TS) (es':List E) (v1 v2:Value),(St t t2 Q 2 4∧Bd t2.N (h+1) es' hi L∧Bx lo hi es'∧(Nd.mk false es').Ok∧(vals es').Nodup∧N8≤es'.length+1)∧v= .tuple #[CN false v1 v2,.int .i64 0]∧Γ=[gK v1 es',gV v2 es',trA Tb pp mb n o (some (t2,vals es'++Q))]
theorem Yf {c1 c2:Nat} (ok:(Nd.mk false (X++e1::e2::Y)).Ok):(Nd.mk false (X++(e1.1,c1)::(e2.1,c2)::Y)).Ok:=by
 have hs:Srt (X++e1::e2::Y):=ok.srt
 obtain ⟨s1,s2,s3⟩:=Srt.app.1 hs
 obtain ⟨s4,s5⟩:=Srt.cons.1 s2
 have hl:(X++e1::e2::Y).length≤8:=ok.len
 refine ⟨Srt.app.2 ⟨s1,Srt.cons.2 ⟨fun x hx=> ?_,Srt.cons.2 ⟨(Srt.cons.1 s5).1,(Srt.cons.1 s5).2⟩⟩,fun a ha b hb=> ?_⟩,by simp at hl ⊢;omega,fun x hx=> ?_,fun _=>by simp⟩
 ·rcases List.mem_cons.1 hx with rfl|hx
  ·exact s4 e2 (by simp)
  ·exact s4 x (by simp[hx])
 ·rcases List.mem_cons.1 hb with rfl|hb
  ·exact s3 a ha e1 (by simp)
  ·rcases List.mem_cons.1 hb with rfl|hb
   ·exact s3 a ha e2 (by simp)
   ·exact s3 a ha b (by simp[hb])
 ·have hx:x∈X++(e1.1,c1)::(e2.1,c2)::Y:=hx
  rcases List.mem_append.1 hx with hx|hx
  ·exact ok.key x (by simp[hx])
  ·rcases List.mem_cons.1 hx with rfl|hx
   ·exact ok.key e1 (by simp)
   ·rcases List.mem_cons.1 hx with rfl|hx
    ·exact ok.key e2 (by simp)
    ·exact ok.key x (by simp[hx])
end
section
open Go.RowKit
variable {Tb:Ae}
set_option maxHeartbeats 4000000 in
theorem Yg (pp mb n:Nat) (o:TB) (t:TS) (Q:List Nat) (kv vv:Value) (h:Nat) (lo hi:Int) (X Y:List E) (e1 e2:E) (m1 m2:Nat) (L0 La Lb L2:List E) (hP:MnPre n t Q h lo hi X Y e1 e2 m1 m2 L0 La Lb L2):Cn prog 92 [Pt_ pp,.agg #[.bool false,kv,vv],Iv_ (X.length:Int)] [trA Tb pp mb n o (some (t,vals (X++e1::e2::Y)++Q)),grow 3 1 kv ((kL (X++e1::e2::Y)).length) ((kL (X++e1::e2::Y)).map Iv_),grow 3 1 vv ((vL (X++e1::e2::Y)).length) ((vL (X++e1::e2::Y)).map Iv_)] (fun v Γ=>Ye Tb pp mb n o t Q h lo hi (X++e1::e2::Y).length (L0++(La++(Lb++L2))) v Γ):=by
 intro z R w H;replace H:=H.l3;obtain ⟨gk,capk,rest_gk,rfl,ck1,ck2,ck3,H⟩:=H.ungrow 1 rfl (by simp only[List.length_map,List.length_append,List.length_cons];omega);replace H:=H.l3;obtain ⟨gv,capv,rest_gv,rfl,cv1,cv2,cv3,H⟩:=H.ungrow 2 rfl (by simp only[List.length_map,List.length_append,List.length_cons];omega);replace H:=H.l3;have K:=H.says 0 rfl (fun h a=>trA.k a)
 have hn:=K.hn
 obtain ⟨hE1,hE2,hE3,hE4⟩:=Q9 hP.ok.srt hP.r;obtain ⟨m31,m32,m33⟩:=hP.m3;have hPk:=hP.hk;have hPb:=hP.hb
 have hl8:(X++e1::e2::Y).length≤8:=hP.ok.len
 have hl9:X.length+Y.length+2≤8:=by simp only[List.length_append,List.length_cons] at hl8;omega
 obtain ⟨es1,hN1,hm1,hr1,ho1,hB1⟩:=Tr.iff.1 hP.ta;have hes18:es1.length≤8:=ho1.len
 replace H:=(H.mono 0 (B:=trA Tb pp mb n o (some (t,e1.2::(vals X++(e2.2::(vals Y++Q)))))) rfl (fun h q=>q.perm (ZP X Y e1 e2 Q))).l3
 refine Ad func92 rfl ntmps92 rfl (Za 2 [] H rfl ?_);intro b1 w H;refine Za 0 [] H rfl ?_;intro b2 w H;refine Za 5 [] H rfl ?_;intro b3 w H;refine Zc 9 rfl (FH 3 (CR (Z3 25 [3,2,2,0] [(X.length:Int)] H rfl (by omega) (Ab rfl (B5 rfl (z:=1) (j:=X.length) (r:=X.length) (by kernel_rfl) rfl rfl rfl (by simp only[List.length_map,List.length_append,List.length_cons];omega) (by omega)) (Ab rfl (AK rfl rfl (by kernel_rfl) (Aq (H.cel 5 rfl X.length (show ((vL (X++e1::e2::Y)).map Iv_++rest_gv)[X.length]? =some (Iv_ (e1.2:Int)) from (by rw[List.getElem?_append_left (by simp),List.getElem?_map];simp[vL]))))) ?_)))));refine Ax rfl (call88 _) (Ip pp mb n o t (vals X++(e2.2::(vals Y++Q))) e1.2 (decide (h=0)) es1 hN1 (by omega) (by simp only[List.length_cons,List.length_append,I5];omega)) H.f3 ?_;rintro _ w _ (⟨hnone1,v4,v5,s1,rfl,rfl⟩|⟨t1,c1,v4,v5,O1,rfl,rfl⟩) H'
 ·have H:=H'.l8;have sv4:=H.says 0 rfl (fun h q=>q.slc)
  have sv5:=H.says 1 rfl (fun h q=>q.slc)
  refine Za 4 [] H rfl ?_;intro b6 w H;refine Zc 1 rfl (AB rfl rfl (Ai 0 H rfl rfl rfl rfl (vs:=[.bool (decide (h=0)),v4,v5]) rfl (Ac rfl (Ac sv4.one (Ac sv5.one Au))) (by kernel_rfl) (by simp) (out:=[.bool (decide (h=0)),v4,v5]) rfl) ?_);rintro w H;replace H:=H.l9;refine Z4 20 [3,6,3,5] H rfl ?_;intro w H;refine Zl [5,3] H rfl ?_;replace H:=(H.mono 7 (B:=grow 3 1 (.slice (some ⟨gk,0,none⟩) ((kL (X++e1::e2::Y)).length) capk) ((kL (X++e1::e2::Y)).length) ((kL (X++e1::e2::Y)).map Iv_)) rfl (fun h q=>by exact q.grow (by omega) (by omega) (by have a:=ck3;have b:=ck1;simp only[List.length_append,List.length_map,List.length_cons] at a b ⊢;omega) (by rw[Nat.mul_one,List.take_left' (by simp)]))).l9
  replace H:=(H.mono 8 (B:=grow 3 1 (.slice (some ⟨gv,0,none⟩) ((vL (X++e1::e2::Y)).length) capv) ((vL (X++e1::e2::Y)).length) ((vL (X++e1::e2::Y)).map Iv_)) rfl (fun h q=>by exact q.grow (by omega) (by omega) (by have a:=cv3;have b:=cv1;simp only[List.length_append,List.length_map,List.length_cons] at a b ⊢;omega) (by rw[Nat.mul_one,List.take_left' (by simp)]))).l9
  exact ⟨_,.inl ⟨(by omega),_,_,_,_,rfl,rfl⟩,H.perm 9 [7,8,3] rfl rfl⟩
 ·have H:=H'.l8;have sv4:=H.says 0 rfl (fun h q=>q.slc)
  have sv5:=H.says 1 rfl (fun h q=>q.slc)
  refine Za 4 [] H rfl ?_;intro b7 w H;refine Zc 1 rfl (AB rfl rfl (Ai 0 H rfl rfl rfl rfl (vs:=[.bool (decide (h=0)),v4,v5]) rfl (Ac rfl (Ac sv4.one (Ac sv5.one Au))) (by kernel_rfl) (by simp) (out:=[.bool (decide (h=0)),v4,v5]) rfl) ?_);rintro w H;replace H:=H.l9;refine Z0 13 [4] rfl ?_;obtain ⟨es2,hN2,hm2,hr2,ho2,hB2⟩:=Tr.iff.1 (O1.st.fr e2.2 (by simp) _ _ _ _ _ hP.tb);have hes28:es2.length≤8:=ho2.len
  replace H:=(H.mono 3 (B:=trA Tb pp mb n o (some (t1,e2.2::(c1::(vals es1++(vals X++(vals Y++Q))))))) rfl (fun h q=>q.perm (ZQ c1 e2.2 (vals es1) (vals X) (vals Y++Q)))).l9
  replace H:=H.f6;refine AI (Sep z (blk b1 [.bool false,.slice (some ⟨gk,0,none⟩) ((kL (X++e1::e2::Y)).length) capk,.slice (some ⟨gv,0,none⟩) ((vL (X++e1::e2::Y)).length) capv] 54::blk b7 [.bool (decide (h=0)),v4,v5] 54::R)) 12 rfl (by kernel_rfl) (A9 H fun w H'=> ?_)
  have H:=H'.l9;refine Hl [0,1,2,3,4,5,6,7] [2,0,0,1,3] [(X.length:Int)] (by exact (H.pick 9 [0,1] rfl)) rfl (by kernel_rfl) (by omega) rfl (BC 8 rfl (by kernel_rfl) (by kernel_rfl) (by kernel_rfl) rfl rfl rfl (B5 rfl (z:=1) (j:=X.length) (r:=X.length) (by kernel_rfl) rfl rfl rfl (by simp only[List.length_map,List.length_append,List.length_cons];omega) (by omega)) (H.pick 9 [0,1] rfl) (Az [9] (by kernel_rfl) (by simp) (Ay (Bp rfl rfl rfl (Ai 8 H rfl rfl rfl rfl (vs:=[Iv_ (c1:Int)]) rfl (Ac rfl Au) (by kernel_rfl) (by simp only[List.length_append,List.length_map,List.length_cons,List.length_nil];omega) (out:=((vL (X++(e1.1,c1)::e2::Y)).map Iv_++rest_gv)) ((Dj (by simp)).trans (by rw[show (vL (X++e1::e2::Y)).set (X.length) (c1:Int)=(vL (X++(e1.1,c1)::e2::Y)) from by simp[vL,List.set_append]]))) ?_))));rintro w H;replace H:=H.l9;refine Ap (H.pick 9 [0,1] rfl) (Hl [10] [2,3,0,0] [] (by exact (H.pick 9 [0,1] rfl)) rfl (by kernel_rfl) (by omega) rfl (Az [11] (by kernel_rfl) (by simp) (Ay (Bp rfl rfl rfl (Ai 5 H rfl rfl rfl rfl (vs:=[.bool (decide (h=0)),v4,v5]) rfl (Ac rfl (Ac sv4.one (Ac sv5.one Au))) (by kernel_rfl) (by simp) (out:=[.bool (decide (h=0)),v4,v5,.bool false,.slice none 0 0,.slice none 0 0]) rfl) ?_))));rintro w H;replace H:=H.l9;refine Ap (H.pick 9 [0,1] rfl) (a_done (by kernel_rfl) (gn (Z1 6 [] [1] rfl (by omega) (gf (CR (Z3 25 [3,2,0,0] [(X.length:Int)+1] H rfl (by omega) (Ab rfl (B5 rfl (z:=1) (j:=(X.length+1)) (r:=(X.length+1)) (by kernel_rfl) rfl rfl (by omega) (by simp only[List.length_map,List.length_append,List.length_cons];omega) (by omega)) (Ab rfl (AK rfl rfl (by kernel_rfl) (Aq (H.cel 8 rfl (X.length+1) (show ((vL (X++(e1.1,c1)::e2::Y)).map Iv_++rest_gv)[X.length+1]? =some (Iv_ (e2.2:Int)) from (by rw[List.getElem?_append_left (by simp),List.getElem?_map];simp[vL]))))) ?_))))))))
  refine Ax rfl (call88 _) (Ip pp mb n o t1 (c1::(vals es1++(vals X++(vals Y++Q)))) e2.2 (decide (h=0)) es2 hN2 (by have:=O1.st.k;omega) (by simp only[List.length_cons,List.length_append,I5];omega)) H.f4 ?_;rintro _ w _ (⟨hnone2,v8,v9,s2,rfl,rfl⟩|⟨t2,c2,v8,v9,O2,rfl,rfl⟩) H'
  ·have H:=H'.l11;have sv8:=H.says 0 rfl (fun h q=>q.slc)
   have sv9:=H.says 1 rfl (fun h q=>q.slc)
   refine Za 4 [] H rfl ?_;intro b10 w H;refine Zc 1 rfl (AB rfl rfl (Ai 0 H rfl rfl rfl rfl (vs:=[.bool (decide (h=0)),v8,v9]) rfl (Ac rfl (Ac sv8.one (Ac sv9.one Au))) (by kernel_rfl) (by simp) (out:=[.bool (decide (h=0)),v8,v9]) rfl) ?_);rintro w H;replace H:=H.l12;refine Z4 20 [3,4,3,9] H rfl ?_;intro w H;refine Zl [9,3] H rfl ?_;replace H:=(H.mono 10 (B:=grow 3 1 (.slice (some ⟨gk,0,none⟩) ((kL (X++e1::e2::Y)).length) capk) ((kL (X++(e1.1,c1)::e2::Y)).length) ((kL (X++(e1.1,c1)::e2::Y)).map Iv_)) rfl (fun h q=>by rw[show (kL (X++(e1.1,c1)::e2::Y)).length=(kL (X++e1::e2::Y)).length from by simp,show kL (X++(e1.1,c1)::e2::Y)=kL (X++e1::e2::Y) from by simp[kL]];exact q.grow (by omega) (by omega) (by have a:=ck3;have b:=ck1;simp only[List.length_append,List.length_map,List.length_cons] at a b ⊢;omega) (by rw[Nat.mul_one,List.take_left' (by simp)]))).l12
   replace H:=(H.mono 11 (B:=grow 3 1 (.slice (some ⟨gv,0,none⟩) ((vL (X++e1::e2::Y)).length) capv) ((vL (X++(e1.1,c1)::e2::Y)).length) ((vL (X++(e1.1,c1)::e2::Y)).map Iv_)) rfl (fun h q=>by rw[show (vL (X++(e1.1,c1)::e2::Y)).length=(vL (X++e1::e2::Y)).length from by simp];exact q.grow (by omega) (by omega) (by have a:=cv3;have b:=cv1;simp only[List.length_append,List.length_map,List.length_cons] at a b ⊢;omega) (by rw[Nat.mul_one,List.take_left' (by simp)]))).l12
   exact ⟨_,.inl ⟨(by have:=O1.st.f;omega),_,_,_,_,rfl,rfl⟩,H.perm 12 [10,11,3] rfl rfl⟩
  ·have H:=H'.l11;have sv8:=H.says 0 rfl (fun h q=>q.slc)
   have sv9:=H.says 1 rfl (fun h q=>q.slc)
   refine Za 4 [] H rfl ?_;intro b11 w H;refine Zc 1 rfl (AB rfl rfl (Ai 0 H rfl rfl rfl rfl (vs:=[.bool (decide (h=0)),v8,v9]) rfl (Ac rfl (Ac sv8.one (Ac sv9.one Au))) (by kernel_rfl) (by simp) (out:=[.bool (decide (h=0)),v8,v9]) rfl) ?_);rintro w H;replace H:=H.l12;refine Z0 13 [4] rfl ?_;replace H:=H.f4;refine AI (Sep z (blk b1 [.bool false,.slice (some ⟨gk,0,none⟩) ((kL (X++e1::e2::Y)).length) capk,.slice (some ⟨gv,0,none⟩) ((vL (X++e1::e2::Y)).length) capv] 54::blk b11 [.bool (decide (h=0)),v8,v9] 54::R)) 12 rfl (by kernel_rfl) (A9 H fun w H'=> ?_)
   have H:=H'.l12;refine Hl [0,1,2,3,4,5,6,7] [2,0,0,1,3] [(X.length:Int)+1] (by exact (H.pick 12 [0,1] rfl)) rfl (by kernel_rfl) (by omega) rfl (BC 8 rfl (by kernel_rfl) (by kernel_rfl) (by kernel_rfl) rfl rfl rfl (B5 rfl (z:=1) (j:=(X.length+1)) (r:=(X.length+1)) (by kernel_rfl) rfl rfl (by omega) (by simp only[List.length_map,List.length_append,List.length_cons];omega) (by omega)) (H.pick 12 [0,1] rfl) (Az [9] (by kernel_rfl) (by simp) (Ay (Bp rfl rfl rfl (Ai 11 H rfl rfl rfl rfl (vs:=[Iv_ (c2:Int)]) rfl (Ac rfl Au) (by kernel_rfl) (by simp only[List.length_append,List.length_map,List.length_cons,List.length_nil];omega) (out:=((vL (X++(e1.1,c1)::(e2.1,c2)::Y)).map Iv_++rest_gv)) ((Dj (by simp)).trans (by rw[show (vL (X++(e1.1,c1)::e2::Y)).set (X.length+1) (c2:Int)=(vL (X++(e1.1,c1)::(e2.1,c2)::Y)) from by simp[vL,List.set_append]]))) ?_))));rintro w H;replace H:=H.l12;refine Ap (H.pick 12 [0,1] rfl) (Hl [10] [2,3,1,3] [] (by exact (H.pick 12 [0,1] rfl)) rfl (by kernel_rfl) (by omega) rfl (Az [11] (by kernel_rfl) (by simp) (Ay (Bp rfl rfl rfl (Ai 8 H rfl rfl rfl rfl (vs:=[.bool (decide (h=0)),v8,v9]) rfl (Ac rfl (Ac sv8.one (Ac sv9.one Au))) (by kernel_rfl) (by simp) (out:=[.bool (decide (h=0)),v4,v5,.bool (decide (h=0)),v8,v9]) rfl) ?_))));rintro w H;replace H:=H.l12;refine Ap (H.pick 12 [0,1] rfl) (a_done (by kernel_rfl) (gn (Z1 6 [] [2] rfl (by omega) (gf (CR (Z0 9 [4] rfl (gx (Zc 3 rfl ?_))))))))
   have K2:=H.says 4 rfl (fun h a=>trA.k a)
   have hB1b:Bd t2.N h es1 e2.1 La:=O2.st.bd (fun v hv=>by simp[hv]) (O1.bd hB1)
   have hB2b:Bd t2.N h es2 (nx Y hi) Lb:=O2.bd hB2
   have hne2:es2≠[]:=fun q=>by rw[q] at hm2;simp at hm2;omega
   obtain ⟨hBB,hsB,hrB⟩:=Wq hB1b hB2b ho1.srt ho2.srt hr1 hr2 hne2 hE1 hE2;have hdB:(vals (es1++es2)).Nodup:=hBB.nd hsB (fun x hx=>(hrB x hx).2) hP.d
   have hc1o:=O2.st.op c1 (by simp) O1.N0 O1.C1
   have hq0:Sq (fun c a b L=>Tr t2.N h c a b 4 L) X e1.1 L0:=Sq.imp hP.q0 fun x hx _ _ q=>O2.st.fr _ (by simp[List.mem_map_of_mem hx,vals]) _ _ _ _ _ (O1.st.fr _ (by simp[List.mem_map_of_mem hx,vals]) _ _ _ _ _ q)
   have hq2:Sq (fun c a b L=>Tr t2.N h c a b 4 L) Y hi L2:=Sq.imp hP.q2 fun x hx _ _ q=>O2.st.fr _ (by simp[List.mem_map_of_mem hx,vals]) _ _ _ _ _ (O1.st.fr _ (by simp[List.mem_map_of_mem hx,vals]) _ _ _ _ _ q)
   have hv1:∀ v∈vals es1,1≤v∧v<1024:=fun v hv=>by have:=K2.i.rin v (by simp[Cb,hv]);omega
   have hv2:∀ v∈vals es2,1≤v∧v<1024:=fun v hv=>by have:=K2.i.rin v (by simp[Cb,hv]);omega
   have hck1:=CkN.of ho1 hv1
   have hck2:=CkN.of ho2 hv2
   have hkB:=Ir hrB (by have:=hP.l0;omega) (by have:=hP.h1;omega)
   refine Z3 5 [2,3,0,0,8,3,2,3,1,3,8,3] [] H rfl (by omega) ?_;rcases Nat.lt_or_ge 8 (es1.length+es2.length) with hj|hj
   ·refine z_E_ rfl (call137 _) (joinF_e (fun h q=>q.rd) (fun h q=>q.rd) (fun h q=>q.rd) (fun h q=>q.rd) hck1 hck2 hsB hj) H.f3.f3.f7.f7 ?_;intro w H;refine Za 3 [] H rfl ?_;intro b14 w H;refine Z5 20 [0,4,2,3,0,0,9,3,2,3,1,3,9,3] [] H rfl (by omega) ?_;intro w H;have hfl:5≤EN es1 es2∧EN es1 es2≤8∧4≤(es1++es2).length - EN es1 es2∧(es1++es2).length - EN es1 es2≤8:=by unfold EN;simp only[List.length_append];omega
    have hsp:=List.take_append_drop (EN es1 es2) (es1++es2)
    obtain ⟨x_,hx_⟩:∃ x_,x_=(es1++es2).take (EN es1 es2):=⟨_,rfl⟩;obtain ⟨y_,hy_⟩:∃ y_,y_=(es1++es2).drop (EN es1 es2):=⟨_,rfl⟩;refine Ax rfl (call138 _) (Wr (fun h q=>q.rd) (fun h q=>q.rd) (fun h q=>q.rd) (fun h q=>q.rd) hck1 hck2 hsB hj x_ y_ hx_ hy_) H.f4.f4.f4.f4 ?_;rintro _ w _ ⟨v15,v16,v17,v18,rfl,rfl⟩ H;replace H:=H.l17;have sv15:=H.says 0 rfl (fun h q=>q.slc)
    have sv16:=H.says 1 rfl (fun h q=>q.slc)
    have sv17:=H.says 2 rfl (fun h q=>q.slc)
    have sv18:=H.says 3 rfl (fun h q=>q.slc)
    have hxl:4≤x_.length∧x_.length≤8:=by rw[hx_,List.length_take];simp only[List.length_append] at hfl ⊢;omega
    have hyl:4≤y_.length∧y_.length≤8:=by rw[hy_,List.length_drop];exact hfl.2.2
    rw[←hx_,←hy_] at hsp;rw[←hsp] at hBB hsB hrB hdB hkB;have hxne:x_≠[]:=fun q=>by rw[q] at hxl;simp at hxl
    have hyne:y_≠[]:=fun q=>by rw[q] at hyl;simp at hyl
    obtain ⟨M1,M2,hM,hBx,hBy⟩:=Bd.app.1 hBB;obtain ⟨hrx,hry,hky1,hky2⟩:=MZ hsB hrB hxne hyne;obtain ⟨hsx,hsy,_⟩:=Srt.app.1 hsB;rw[Bm,List.nodup_append] at hdB;obtain ⟨ky,hky⟩:∃ ky,ky=nx y_ (nx Y hi):=⟨_,rfl⟩;rw[←hky] at hBx hrx hry hky1 hky2;have hox:(Nd.mk (decide (h=0)) x_).Ok:=⟨hsx,hxl.2,fun e he=>hkB e (by simp[he]),fun _=>hxne⟩
    have hoy:(Nd.mk (decide (h=0)) y_).Ok:=⟨hsy,hyl.2,fun e he=>hkB e (by simp[he]),fun _=>hyne⟩
    have hpm:(c2::(vals es2++(c1::(vals es1++(vals X++(vals Y++Q)))))).Perm (c1::(vals x_++(c2::(vals y_++(vals X++(vals Y++Q)))))):=ZR c1 c2 es1 es2 x_ y_ _ hsp.symm
    refine Za 4 [] H rfl ?_;intro b19 w H;refine Za 0 [] H rfl ?_;intro b20 w H;refine AB rfl rfl (Ai 1 H rfl rfl rfl rfl (vs:=[.bool (decide (h=0)),v15,v16]) rfl (Ac rfl (Ac sv15.one (Ac sv16.one Au))) (by kernel_rfl) (by simp) (out:=[.bool (decide (h=0)),v15,v16]) rfl) ?_;rintro w H;replace H:=H.l19;refine AB rfl rfl (Ai 0 H rfl rfl rfl rfl (vs:=[.bool (decide (h=0)),v17,v18]) rfl (Ac rfl (Ac sv17.one (Ac sv18.one Au))) (by kernel_rfl) (by simp) (out:=[.bool (decide (h=0)),v17,v18]) rfl) ?_;rintro w H;replace H:=H.l19;refine Z0 15 [4] rfl ?_;replace H:=(H.mono 13 (B:=trA Tb pp mb n o (some (t2,c1::(vals x_++(c2::(vals y_++(vals X++(vals Y++Q)))))))) rfl (fun h q=>q.perm hpm)).l19
    replace H:=(H.pick 19 [11,1,18,0,2,3,4,5,6,7,8,9,10,12,13,14,15,16,17] rfl).l19
    refine AI (Sep z (blk b1 [.bool false,.slice (some ⟨gk,0,none⟩) ((kL (X++e1::e2::Y)).length) capk,.slice (some ⟨gv,0,none⟩) ((vL (X++e1::e2::Y)).length) capv] 54::blk b19 [.bool (decide (h=0)),v15,v16] 54::blk gv ((vL (X++(e1.1,c1)::(e2.1,c2)::Y)).map Iv_++rest_gv) 3::R)) 9 rfl (by kernel_rfl) (A9 H fun w H'=> ?_)
    have H:=H'.l19;refine AN [0,1,2,3] [2,0,0] [] (by exact (H.pick 19 [0,1,2] rfl)) rfl (by kernel_rfl) rfl (BC 4 rfl (by kernel_rfl) (by kernel_rfl) (by kernel_rfl) rfl rfl rfl (B5 rfl (z:=1) (j:=X.length) (r:=X.length) (by kernel_rfl) rfl rfl rfl (by simp only[List.length_map,List.length_append,List.length_cons];omega) (by omega)) (H.pick 19 [0,1,2] rfl) (BC 5 rfl (by kernel_rfl) (by kernel_rfl) (by kernel_rfl) rfl rfl rfl (AK rfl rfl (by kernel_rfl) (fun _ hx=>hx.cel 2 rfl X.length (show ((vL (X++(e1.1,c1)::(e2.1,c2)::Y)).map Iv_++rest_gv)[X.length]? =some (Iv_ (c1:Int)) from (by rw[List.getElem?_append_left (by simp),List.getElem?_map];simp[vL])))) (H.pick 19 [0,1,2] rfl) ?_));refine AN [6] [1,3] [] (by exact (H.pick 19 [0,1,2] rfl)) rfl (by kernel_rfl) rfl (Az [7] (by kernel_rfl) (by simp) (Ay (NJ rfl rfl rfl rfl rfl rfl (fun w=>call90 _ w) (E2 pp mb n o t2 (c2::(vals y_++(vals X++(vals Y++Q)))) c1 (decide (h=0)) _ _ x_ _ _ (fun h q=>q.rd) (fun h q=>q.rd) h e1.1 ky 4 M1 hBx rfl hrx hxl.1 hox hdB.1 hc1o.2 hc1o.1 (by have:=O1.st.k;have:=O2.st.k;omega)) H 15 [14,4,5,0,1,2,3,6,7,8,9,10,11,12,13] rfl rfl ?_)));rintro _ w _ ⟨t3,⟨hSt3,hT3,hC3,hN3⟩,rfl,rfl⟩ H;replace H:=H.l19;refine Ap (H.pick 19 [3,4,5] rfl) (AN [8] [] [] (by exact (H.pick 19 [3,4,5] rfl)) rfl (by kernel_rfl) rfl (a_done (by kernel_rfl) (gn (Z0 11 [4] rfl ?_))));obtain ⟨aoy,cc21,rfl⟩:=sv17;have haty:=(H.rd 7 rfl (fun h q=>q.rd)).at (j:=0) (u:=Iv_ ky) (by rw[List.getElem?_map,EJ (hi:=nx Y hi) hyl.1,hky];rfl)
    replace H:=(H.pick 19 [3,6,7,0,1,2,4,5,8,9,10,11,12,13,14,15,16,17,18] rfl).l19
    refine AI (Sep z (blk b1 [.bool false,.slice (some ⟨gk,0,none⟩) ((kL (X++e1::e2::Y)).length) capk,.slice (some ⟨gv,0,none⟩) ((vL (X++e1::e2::Y)).length) capv] 54::blk b20 [.bool (decide (h=0)),.slice aoy ((kL y_).length) cc21,v18] 54::grow 3 1 (.slice aoy ((kL y_).length) cc21) ((kL y_).length) ((kL y_).map Iv_)::R)) 10 rfl (by kernel_rfl) (A9 H fun w H'=> ?_)
    have H:=H'.l19;refine Hl [0,1,2,3,4,5] [1,0,0,1,1,0] [(X.length:Int)+1] (by exact (H.pick 19 [0,1,2] rfl)) rfl (by kernel_rfl) (by omega) rfl (BC 6 rfl (by kernel_rfl) (by kernel_rfl) (by kernel_rfl) rfl rfl rfl (Aj rfl (z:=1) (j:=0) (r:=0) (by kernel_rfl) rfl rfl rfl (by simp only[List.length_map];omega) haty (by omega)) (H.pick 19 [0,1,2] rfl) (BC 7 rfl (by kernel_rfl) (by kernel_rfl) (by kernel_rfl) rfl rfl rfl (Av rfl rfl (by kernel_rfl) (fun _ hx'=>(hx'.rd 2 rfl (fun h q=>q.rd)).at (j:=0) (u:=Iv_ ky) (by rw[List.getElem?_map,EJ (hi:=nx Y hi) hyl.1,hky];rfl))) (H.pick 19 [0,1,2] rfl) ?_));refine BC 8 rfl (by kernel_rfl) (by kernel_rfl) (by kernel_rfl) rfl rfl rfl (B5 rfl (z:=1) (j:=(X.length+1)) (r:=(X.length+1)) (by kernel_rfl) rfl rfl (by omega) (by simp only[List.length_map,List.length_append,List.length_cons];omega) (by omega)) (H.pick 19 [0,1,2] rfl) (Az [9] (by kernel_rfl) (by simp) (Ay (Bp rfl rfl rfl (Ai 18 H rfl rfl rfl rfl (vs:=[Iv_ ky]) rfl (Ac rfl Au) (by kernel_rfl) (by simp only[List.length_append,List.length_map,List.length_cons,List.length_nil];omega) (out:=((kL (X++(e1.1,c1)::(ky,c2)::Y)).map Iv_++rest_gk)) ((Dj (by simp)).trans (by rw[show (kL (X++e1::e2::Y)).set (X.length+1) ky=(kL (X++(e1.1,c1)::(ky,c2)::Y)) from by simp[kL,List.set_append]]))) ?_)));rintro w H;replace H:=H.l19;refine Ap (H.pick 19 [0,1,2] rfl) (a_done (by kernel_rfl) (gn (Zc 2 rfl ?_)))
    replace H:=(H.mono 3 (B:=trA Tb pp mb n o (some (t3,c2::(vals y_++(c1::(vals X++(vals Y++Q))))))) rfl (fun h q=>q.perm (ZS c1 c2 _ _))).l19
    replace H:=(H.pick 19 [0,1,7,2,3,4,5,6,8,9,10,11,12,13,14,15,16,17,18] rfl).l19
    refine AI (Sep z (blk b1 [.bool false,.slice (some ⟨gk,0,none⟩) ((kL (X++e1::e2::Y)).length) capk,.slice (some ⟨gv,0,none⟩) ((vL (X++e1::e2::Y)).length) capv] 54::blk b20 [.bool (decide (h=0)),.slice aoy ((kL y_).length) cc21,v18] 54::blk gv ((vL (X++(e1.1,c1)::(e2.1,c2)::Y)).map Iv_++rest_gv) 3::R)) 12 rfl (by kernel_rfl) (A9 H fun w H'=> ?_)
    have H:=H'.l19;refine Hl [0,1,2,3,4,5] [0,3,2,0,0] [(X.length:Int)+1] (by exact (H.pick 19 [0,1,2] rfl)) rfl (by kernel_rfl) (by omega) rfl (BC 6 rfl (by kernel_rfl) (by kernel_rfl) (by kernel_rfl) rfl rfl rfl (B5 rfl (z:=1) (j:=(X.length+1)) (r:=(X.length+1)) (by kernel_rfl) rfl rfl (by omega) (by simp only[List.length_map,List.length_append,List.length_cons];omega) (by omega)) (H.pick 19 [0,1,2] rfl) (BC 7 rfl (by kernel_rfl) (by kernel_rfl) (by kernel_rfl) rfl rfl rfl (AK rfl rfl (by kernel_rfl) (fun _ hx=>hx.cel 2 rfl (X.length+1) (show ((vL (X++(e1.1,c1)::(e2.1,c2)::Y)).map Iv_++rest_gv)[X.length+1]? =some (Iv_ (c2:Int)) from (by rw[List.getElem?_append_left (by simp),List.getElem?_map];simp[vL])))) (H.pick 19 [0,1,2] rfl) ?_));refine AN [8] [1,3] [] (by exact (H.pick 19 [0,1,2] rfl)) rfl (by kernel_rfl) rfl (Az [9] (by kernel_rfl) (by simp) (Ay (NJ rfl rfl rfl rfl rfl rfl (fun w=>call90 _ w) (E2 pp mb n o t3 (c1::(vals X++(vals Y++Q))) c2 (decide (h=0)) _ _ y_ _ _ (fun h q=>q.rd) (fun h q=>q.rd) h ky (nx Y hi) 4 M2 (hSt3.bd (fun v hv=>by simp[hv]) hBy) rfl hry hyl.1 hoy hdB.2.1 (hSt3.op c2 (by simp) O2.N0 O2.C1).2 (hSt3.op c2 (by simp) O2.N0 O2.C1).1 (by have:=O1.st.k;have:=O2.st.k;have:=hSt3.k;omega)) H 9 [4,3,8,0,1,2,5,6,7] rfl rfl ?_)));rintro _ w _ ⟨t4,⟨hSt4,hT4,hC4,hN4⟩,rfl,rfl⟩ H;replace H:=H.l19;refine Ap (H.pick 19 [3,4,5] rfl) (Az [10] (by kernel_rfl) (by simp) (Ay (Bp rfl rfl rfl (Ai 17 H rfl rfl rfl rfl (vs:=[.bool false,.slice (some ⟨gk,0,none⟩) ((kL (X++e1::e2::Y)).length) capk,.slice (some ⟨gv,0,none⟩) ((vL (X++e1::e2::Y)).length) capv]) rfl (by simp[u8,u32,Value.oneCell']) (by kernel_rfl) (by simp) (out:=[.bool false,.slice (some ⟨gk,0,none⟩) ((kL (X++e1::e2::Y)).length) capk,.slice (some ⟨gv,0,none⟩) ((vL (X++e1::e2::Y)).length) capv]) rfl) ?_)))
    rintro w H;replace H:=H.l19;refine Ap (H.pick 19 [3,4,5] rfl) (AN [11] [] [] (by exact (H.pick 19 [3,4,5] rfl)) rfl (by kernel_rfl) rfl (a_done (by kernel_rfl) (gn (Zc 2 rfl (Zl [17,3] H rfl ?_)))));replace H:=(H.mono 18 (B:=grow 3 1 (.slice (some ⟨gk,0,none⟩) ((kL (X++e1::e2::Y)).length) capk) ((kL (X++(e1.1,c1)::(ky,c2)::Y)).length) ((kL (X++(e1.1,c1)::(ky,c2)::Y)).map Iv_)) rfl (fun h q=>by rw[show (kL (X++(e1.1,c1)::(ky,c2)::Y)).length=(kL (X++e1::e2::Y)).length from by simp];exact q.grow (by omega) (by omega) (by have a:=ck3;have b:=ck1;simp only[List.length_append,List.length_map,List.length_cons] at a b ⊢;omega) (by rw[Nat.mul_one,List.take_left' (by simp)]))).l19
    replace H:=(H.mono 5 (B:=grow 3 1 (.slice (some ⟨gv,0,none⟩) ((vL (X++e1::e2::Y)).length) capv) ((vL (X++(e1.1,c1)::(ky,c2)::Y)).length) ((vL (X++(e1.1,c1)::(ky,c2)::Y)).map Iv_)) rfl (fun h q=>by rw[show (vL (X++(e1.1,c1)::(ky,c2)::Y)).length=(vL (X++e1::e2::Y)).length from by simp,show vL (X++(e1.1,c1)::(ky,c2)::Y)=vL (X++(e1.1,c1)::(e2.1,c2)::Y) from by simp[vL]];exact q.grow (by omega) (by omega) (by have a:=cv3;have b:=cv1;simp only[List.length_append,List.length_map,List.length_cons] at a b ⊢;omega) (by rw[Nat.mul_one,List.take_left' (by simp)]))).l19
    replace H:=(H.mono 0 (B:=trA Tb pp mb n o (some (t4,vals (X++(e1.1,c1)::(ky,c2)::Y)++Q))) rfl (fun h q=>q.perm (ZU c1 c2 e1.1 ky X Y Q))).l19
    have hj4:=mn_share (c1:=c1) (c2:=c2) hP.ok hP.r (Sq.st hSt4 (fun v hv=>by simp[hv]) (Sq.st hSt3 (fun v hv=>by simp[hv]) hq0)) (Sq.st hSt4 (fun v hv=>by simp[hv]) (Sq.st hSt3 (fun v hv=>by simp[hv]) hq2)) (hSt4.fr c1 (by simp) _ _ _ _ _ hT3) hT4 hM.symm hky1 hky2 hP.h1
    exact ⟨_,.inr ⟨t4,_,_,_,⟨St.t4 O1.st O2.st hSt3 hSt4 (by omega) (fun p hp=>by simp[hp]) (fun p hp=>by simp[hp]) (fun p hp=>by simp[hp]) (fun p hp=>by simp[hp]),hj4.1,hj4.2.1,hj4.2.2.1,hj4.2.2.2,by simp⟩,rfl,rfl⟩,H.perm 19 [18,5,0] rfl rfl⟩
   ·refine Ax rfl (call137 _) (X6 (fun h q=>q.rd) (fun h q=>q.rd) (fun h q=>q.rd) (fun h q=>q.rd) hck1 hck2 hsB hj) H.f3.f3.f7.f7 ?_;rintro _ w _ ⟨v12,v13,rfl,rfl⟩ H;replace H:=H.l14;have sv12:=H.says 0 rfl (fun h q=>q.slc)
    have sv13:=H.says 1 rfl (fun h q=>q.slc)
    refine Za 3 [] H rfl ?_;intro b22 w H;refine AB rfl rfl (Ai 0 H rfl rfl rfl rfl (vs:=[.bool (decide (h=0)),v12,v13]) rfl (Ac rfl (Ac sv12.one (Ac sv13.one Au))) (by kernel_rfl) (by simp) (out:=[.bool (decide (h=0)),v12,v13]) rfl) ?_;rintro w H;replace H:=H.l15;refine Z0 13 [3] rfl ?_;have hoB:(Nd.mk (decide (h=0)) (es1++es2)).Ok:=⟨hsB,by simp;omega,hkB,fun _=>by simp[hne2]⟩
    replace H:=(H.mono 9 (B:=trA Tb pp mb n o (some (t2,c1::(vals (es1++es2)++(c2::(vals X++(vals Y++Q))))))) rfl (fun h q=>q.perm (ZF c1 c2 es1 es2 _))).l15
    replace H:=H.f14.f1.f8;refine AI (Sep z (blk b1 [.bool false,.slice (some ⟨gk,0,none⟩) ((kL (X++e1::e2::Y)).length) capk,.slice (some ⟨gv,0,none⟩) ((vL (X++e1::e2::Y)).length) capv] 54::blk b22 [.bool (decide (h=0)),v12,v13] 54::blk gv ((vL (X++(e1.1,c1)::(e2.1,c2)::Y)).map Iv_++rest_gv) 3::R)) 9 rfl (by kernel_rfl) (A9 H fun w H'=> ?_)
    have H:=H'.l15;refine AN [0,1,2,3] [2,0,0] [] (by exact (H.pick 15 [0,1,2] rfl)) rfl (by kernel_rfl) rfl (BC 4 rfl (by kernel_rfl) (by kernel_rfl) (by kernel_rfl) rfl rfl rfl (B5 rfl (z:=1) (j:=X.length) (r:=X.length) (by kernel_rfl) rfl rfl rfl (by simp only[List.length_map,List.length_append,List.length_cons];omega) (by omega)) (H.pick 15 [0,1,2] rfl) (BC 5 rfl (by kernel_rfl) (by kernel_rfl) (by kernel_rfl) rfl rfl rfl (AK rfl rfl (by kernel_rfl) (fun _ hx=>hx.cel 2 rfl X.length (show ((vL (X++(e1.1,c1)::(e2.1,c2)::Y)).map Iv_++rest_gv)[X.length]? =some (Iv_ (c1:Int)) from (by rw[List.getElem?_append_left (by simp),List.getElem?_map];simp[vL])))) (H.pick 15 [0,1,2] rfl) ?_));refine AN [6] [1,3] [] (by exact (H.pick 15 [0,1,2] rfl)) rfl (by kernel_rfl) rfl (Az [7] (by kernel_rfl) (by simp) (Ay (BH rfl rfl rfl rfl rfl rfl (fun w=>call90 _ w) (E2 pp mb n o t2 (c2::(vals X++(vals Y++Q))) c1 (decide (h=0)) _ _ (es1++es2) _ _ (fun h q=>q.rd) (fun h q=>q.rd) h e1.1 (nx Y hi) 4 (La++Lb) hBB rfl hrB (by simp;omega) hoB hdB hc1o.2 hc1o.1 (by have:=O1.st.k;have:=O2.st.k;omega)) H.f4.f4.f10 rfl ?_)));rintro _ w _ ⟨t3,⟨hSt3,hT3,hC3,hN3⟩,rfl,rfl⟩ H;replace H:=H.l15;refine Ap (H.pick 15 [3,4,5] rfl) (AN [8] [] [] (by exact (H.pick 15 [3,4,5] rfl)) rfl (by kernel_rfl) rfl (a_done (by kernel_rfl) (gn (Z0 12 [4] rfl ?_))));replace H:=(H.mono 0 (B:=trA Tb pp mb n o (some (t3,c2::(c1::(vals X++(vals Y++Q)))))) rfl (fun h q=>q.perm (List.Perm.swap _ _ _))).l15
    refine Z3 6 [2,3,0] [(X.length:Int)+1] H rfl (by omega) (Ab rfl (B5 rfl (z:=1) (j:=(X.length+1)) (r:=(X.length+1)) (by kernel_rfl) rfl rfl (by omega) (by simp only[List.length_map,List.length_append,List.length_cons];omega) (by omega)) (Ab rfl (AK rfl rfl (by kernel_rfl) (Aq (H.cel 5 rfl (X.length+1) (show ((vL (X++(e1.1,c1)::(e2.1,c2)::Y)).map Iv_++rest_gv)[X.length+1]? =some (Iv_ (c2:Int)) from (by rw[List.getElem?_append_left (by simp),List.getElem?_map];simp[vL]))))) ?_));refine Ax rfl (call49 _) (FU pp mb n o t3 _ c2 (fun d q=>by rw[(hSt3.op c2 (by simp) O2.N0 O2.C1).1] at q;cases q)) H ?_;rintro _ w _ ⟨t4,⟨hS4,hq4,hC4,hN4,hF4⟩,rfl,rfl⟩ H;refine Z0 13 [4] rfl ?_;have K4:=H.says 0 rfl (fun h a=>trA.k a)
    have hvW:∀ v∈vals X++vals Y,1≤v∧v<1024:=fun v hv=>by have:=K4.i.rin v (by simp only[Cb,List.mem_cons,List.mem_append] at hv ⊢;rcases hv with h|h<;>simp[h]);omega
    have hvc1:1≤c1∧c1<1024:=by have:=K4.i.rin c1 (by simp[Cb]);omega
    have hvc2:1≤c2∧c2<1024:=by have:=K2.i.rin c2 (by simp[Cb]);omega
    have hjj:=OD (N:=t4.N) (c1:=c1) hP.ok hP.r (Sq.st hS4 (fun v hv=>by simp[hv]) (Sq.st hSt3 (fun v hv=>by simp[hv]) hq0)) (Sq.st hS4 (fun v hv=>by simp[hv]) (Sq.st hSt3 (fun v hv=>by simp[hv]) hq2)) (hS4.fr c1 (by simp) _ _ _ _ _ hT3)
    have hckB:CkN false (kL (X++(e1.1,c1)::Y)) (vL (X++(e1.1,c1)::Y)):=CkN.of hjj.2.2.1 (fun v hv=>by rw[Bm,BE] at hv;simp only[List.mem_append,List.mem_cons] at hv;rcases hv with q|q|q;exact hvW v (by simp[q]);rw[q];exact hvc1;exact hvW v (by simp[q]))
    have hckA:CkN false (kL (X++(e1.1,c1)::(e2.1,c2)::Y)) (vL (X++(e1.1,c1)::(e2.1,c2)::Y)):=CkN.of (Yf hP.ok) (fun v hv=>by rw[Bm,BE,BE] at hv;simp only[List.mem_append,List.mem_cons] at hv;rcases hv with q|q|q|q;exact hvW v (by simp[q]);rw[q];exact hvc1;rw[q];exact hvc2;exact hvW v (by simp[q]))
    refine Z3 4 [3,3] [((X.length+1:Nat):Int)] H rfl (by omega) (Ax rfl (call91 _) (Ws (fun h q=>by rw[show kL (X++(e1.1,c1)::(e2.1,c2)::Y)=kL (X++e1::e2::Y) from by simp[kL]];exact q.rd (by omega) (by omega) (by simp only[List.length_append,List.length_map,List.length_cons];omega) (by rw[List.drop_zero,Nat.mul_one,List.take_left' (by simp)])) (fun h q=>by rw[show (vL (X++(e1.1,c1)::(e2.1,c2)::Y)).length=(vL (X++e1::e2::Y)).length from by simp];exact q.rd (by omega) (by omega) (by simp only[List.length_append,List.length_map,List.length_cons];omega) (by rw[List.drop_zero,Nat.mul_one,List.take_left' (by simp)])) hckA hckB) H.f5.f14 ?_);rintro _ w _ ⟨v23,v24,rfl,rfl⟩ H;replace H:=H.l17;have sv23:=H.says 0 rfl (fun h q=>q.slc)
    have sv24:=H.says 1 rfl (fun h q=>q.slc)
    refine Zc 2 rfl (AB rfl rfl (Ai 16 H rfl rfl rfl rfl (vs:=[.bool false,v23,v24]) rfl (Ac rfl (Ac sv23.one (Ac sv24.one Au))) (by kernel_rfl) (by simp) (out:=[.bool false,v23,v24]) rfl) ?_);rintro w H;replace H:=H.l17;refine Zc 4 rfl (Zl [16,3] H rfl ?_);replace H:=(H.mono 4 (B:=trA Tb pp mb n o (some (t4,vals (X++(e1.1,c1)::Y)++Q))) rfl (fun h q=>q.perm (ZT c1 e1.1 X Y Q))).l17
    have hj4:=OD (c1:=c1) hP.ok hP.r (Sq.st hS4 (fun v hv=>by simp[hv]) (Sq.st hSt3 (fun v hv=>by simp[hv]) hq0)) (Sq.st hS4 (fun v hv=>by simp[hv]) (Sq.st hSt3 (fun v hv=>by simp[hv]) hq2)) (hS4.fr c1 (by simp) _ _ _ _ _ hT3)
    exact ⟨_,.inr ⟨t4,_,_,_,⟨St.t4 O1.st O2.st hSt3 hS4 (by omega) (fun p hp=>by simp[hp]) (fun p hp=>by simp[hp]) (fun p hp=>by simp[hp]) (fun p hp=>by simp[hp]),hj4.1,hj4.2.1,hj4.2.2.1,hj4.2.2.2,by simp;omega⟩,rfl,rfl⟩,H.perm 17 [0,1,4] rfl rfl⟩
end
section
open Go.RowKit
variable {Tb:Ae}
structure RmPre (n:Nat) (t:TS) (Q:List Nat) (a h:Nat) (lo hi:Int) (m:Nat) (key:Int) (v0:Nat) (L:List E):Prop where
 T:Tr t.N h a lo hi m L
 kin:(key,v0)∈L
 l0:0≤lo
 h1:hi≤1048576
 d:(vals L).Nodup
 mm:1≤m∧(h≠0→2≤m)
 hk:t.k+6 * h+4<40
 hb:Q.length+10 * h+42+n≤980
abbrev JN (Tb:Ae) (pp mb n:Nat) (o:TB) (t:TS) (Q:List Nat) (h:Nat) (lo hi:Int) (m:Nat) (key:Int) (L:List E) (v:Value) (Γ:List Ae):Prop:=
 (cnt t.F 0 1024≤3 * h∧∃ s:TS×List Nat,v= .tuple #[.int .i64 0,.int .i64 0,.int .i64 20]∧Γ=[trA Tb pp mb n o (some s)])∨
 ∃ (t2:TS) (c:Nat) (es':List E),(St t t2 Q (3 * h+1) (6 * h+2)∧Tr t2.N h c lo hi es'.length (AV key L)∧t2.N c=some (.nd ⟨decide (h=0),es'⟩)∧t2.C c=1∧m≤es'.length+1)∧v= .tuple #[.int .i64 (c:Int),.int .i64 (es'.length:Int),.int .i64 0]∧Γ=[trA Tb pp mb n o (some (t2,c::Q))]
theorem Hf {key:Int} {L:List E} (h:(vals L).Nodup):(vals (AV key L)).Nodup:=by
 unfold vals AV
 exact List.Nodup.sublist (List.Sublist.map _ List.filter_sublist) h
theorem Wt {X Y:List E} {key:Int} {v0 c:Nat} {Q:List Nat} :(c::(vals (X++(key,v0)::Y)++Q)).Perm (v0::(c::(vals (X++Y)++Q))):=
 List.perm_iff_count.2 fun a=>by simp only[List.count_append,List.count_cons,CX,Dm];omega
theorem Tz {X Y:List E} {e:E} {c:Nat} {Q:List Nat} :(c::(vals (X++e::Y)++Q)).Perm (e.2::(c::(vals X++(vals Y++Q)))):=
 List.perm_iff_count.2 fun a=>by simp only[List.count_append,List.count_cons,CX,Dm];omega
theorem Ra {X Y:List E} {k:Int} {c c2:Nat} {Q:List Nat} :(c2::(c::(vals X++(vals Y++Q)))).Perm (vals (X++(k,c2)::Y)++(c::Q)):=
 List.perm_iff_count.2 fun a=>by simp only[List.count_append,List.count_cons,CX,Dm];omega
theorem K0 {es:List E} {c:Nat} {Q:List Nat} :(vals es++(c::Q)).Perm (c::(vals es++Q)):=List.perm_middle
theorem TA {N:Hm} {X Y:List E} {lo hi:Int} {key:Int} {v0:Nat} (ok:(Nd.mk true (X++(key,v0)::Y)).Ok) (hr:Bx lo hi (X++(key,v0)::Y)) (h:∀ e∈X++(key,v0)::Y,∃ b,N e.2=some (.dt b)) (hnd:(vals (X++(key,v0)::Y)).Nodup):
  AV key (X++(key,v0)::Y)=X++Y∧Bd N 0 (X++Y) hi (X++Y)∧Bx lo hi (X++Y)∧(Nd.mk true (X++Y)).Ok∧(vals (X++Y)).Nodup:=by
 have hs:Srt (X++(key,v0)::Y):=ok.srt
 obtain ⟨s1,s2,s3⟩:=Srt.app.1 hs
 have hm:∀ x∈X++Y,x∈X++(key,v0)::Y:=fun x hx=>by
  rcases List.mem_append.1 hx with q|q<;>simp[q]
 have hl:(X++(key,v0)::Y).length≤8:=ok.len
 refine ⟨Ot hs,⟨rfl,fun e he=>h e (hm e he)⟩,fun x hx=>hr x (hm x hx),⟨Srt.app.2 ⟨s1,(Srt.cons.1 s2).2,fun a ha b hb=>s3 a ha b (by simp[hb])⟩,by simp at hl ⊢;omega,fun e he=>ok.key e (hm e he),fun q=>by cases q⟩,?_⟩
 rw[Bm,BE] at hnd
 rw[Bm]
 exact (List.nodup_cons.1 (List.perm_middle.nodup_iff.1 hnd)).2
theorem Y4 {N:Hm} {h:Nat} {lo hi:Int} {L X Y:List E} {e:E} {key:Int} {v0:Nat} (hs:Srt (X++e::Y)) (hr:Bx lo hi (X++e::Y)) (hB:Bd N (h+1) (X++e::Y) hi L) (hX:X=[]∨e.1≤key) (hY:∀ x∈Y,key<x.1∧e.1<x.1) (hk:(key,v0)∈L):
  ∃ L0 Lc L2,(Sq (fun c a b L=>Tr N h c a b 4 L) X e.1 L0∧Tr N h e.2 e.1 (nx Y hi) 4 Lc∧Sq (fun c a b L=>Tr N h c a b 4 L) Y hi L2)∧L=L0++(Lc++L2)∧AV key L=L0++(AV key Lc++L2)∧(key,v0)∈Lc∧lo≤e.1∧nx Y hi≤hi:=by
 obtain ⟨L0,Lc,L2,rfl,h1,h2,h3⟩:=Sq.at hB
 obtain ⟨s1,s2,s3⟩:=Srt.app.1 hs
 have a1:=Sq.srt h1 s1 (fun x hx=>s3 x hx e (by simp)) (fun _ _ _ _ q=>Tr.srt q)
 have a3:=Sq.srt h3 (Srt.cons.1 s2).2 (fun x hx=>(hr x (by simp[hx])).2) (fun _ _ _ _ q=>Tr.srt q)
 have n0:∀ x∈L0,x.1≠key:=fun x hx=>by
  rcases hX with rfl|hX
  ·simp only[Sq] at h1;subst h1;simp at hx
  ·have:=a1.2.1 x hx;omega
 have n2:∀ x∈L2,x.1≠key:=fun x hx=>by
  cases Y with
  | nil=>simp only[Sq] at h3;subst h3;simp at hx
  | cons y t=>
   have:=a3.2.1 x hx
   have:=hY y (by simp)
   simp only[nx] at *;omega
 refine ⟨L0,Lc,L2,⟨h1,h2,h3⟩,rfl,?_,?_,(hr e (by simp)).1,Pr (fun x hx=>(hr x (by simp[hx])).2)⟩
 ·rw[Hb,Hb,Fx n0,Fx n2]
 ·rcases List.mem_append.1 hk with q|q
  ·exact absurd rfl (n0 _ q)
  ·rcases List.mem_append.1 q with q|q
   ·exact q
   ·exact absurd rfl (n2 _ q)
theorem rm_node {lo hi:Int} {X Y:List E} {e:E} (c2:Nat) (ok:(Nd.mk false (X++e::Y)).Ok) (hr:Bx lo hi (X++e::Y)):(Nd.mk false (X++(e.1,c2)::Y)).Ok∧Bx lo hi (X++(e.1,c2)::Y):=by
 have hs:Srt (X++e::Y):=ok.srt
 have hn:=I4 (k1:=e.1) c2 hs hr (.inr rfl) (Int.le_refl _) (hr e (by simp)).1
 have hl:(X++e::Y).length≤8:=ok.len
 refine ⟨⟨hn.1,by simp at hl ⊢;omega,fun x hx=> ?_,fun _=>by simp⟩,hn.2⟩
 have hx:x∈X++(e.1,c2)::Y:=hx
 rcases List.mem_append.1 hx with hx|hx
 ·exact ok.key x (by simp[hx])
 ·rcases List.mem_cons.1 hx with rfl|hx
  ·exact ok.key e (by simp)
  ·exact ok.key x (by simp[hx])
theorem rm_pick {n:Nat} {t:TS} {Q:List Nat} {h c2:Nat} {lo hi:Int} {X Y:List E} {k:Int} {L0 Lc L2:List E} {m1:Nat} (ok:(Nd.mk false (X++(k,c2)::Y)).Ok) (r:Bx lo hi (X++(k,c2)::Y)) (q0:Sq (fun c a b L=>Tr t.N h c a b 4 L) X k L0) (qc:Tr t.N h c2 k (nx Y hi) m1 Lc) (q2:Sq (fun c a b L=>Tr t.N h c a b 4 L) Y hi L2)
  (h3:3≤m1) (h2:2≤(X++(k,c2)::Y).length) (l0:0≤lo) (h1:hi≤1048576) (hd:(vals (L0++(Lc++L2))).Nodup) (hk:t.k+5<40) (hb:Q.length+30+n≤980):
  ∃ U V f1 f2 m2 m3 M0 Ma Mb M2,X++(k,c2)::Y=U++f1::f2::V∧min (X.length:Int) (((X++(k,c2)::Y).length:Int) - 2)=(U.length:Int)∧L0++(Lc++L2)=M0++(Ma++(Mb++M2))∧MnPre n t Q h lo hi U V f1 f2 m2 m3 M0 Ma Mb M2:=by
 cases Y with
 | cons y Y=>
  obtain ⟨Ly,L3,rfl,hy,q3⟩:=q2
  refine ⟨X,Y,(k,c2),y,m1,4,L0,Lc,Ly,L3,rfl,?_,rfl,ok,r,q0,qc,hy,q3,by omega,l0,h1,?_,hk,hb⟩
  ·simp only[List.length_append,List.length_cons];omega
  ·rw[Bm,Bm,Bm,List.nodup_append] at hd
   have h5:=hd.2.1
   rw[←List.append_assoc,List.nodup_append] at h5
   rw[Bm];exact h5.1
 | nil=>
  have e2:L2=[]:=q2
  subst e2
  rcases List.eq_nil_or_concat X with rfl|⟨X',x,rfl⟩
  ·simp at h2
  ·rw[List.concat_eq_append] at *
   obtain ⟨La,Lb,rfl,qa,Lx,L5,rfl,hx,q5⟩:=Sq.app.1 q0
   have e5:L5=[]:=q5
   subst e5
   refine ⟨X',[],x,(k,c2),4,m1,La,Lx,Lc,[],by simp,?_,by simp,?_,?_,qa,hx,qc,rfl,by omega,l0,h1,?_,hk,hb⟩
   ·simp only[List.length_append,List.length_cons,List.length_nil];omega
   ·rw[List.append_assoc] at ok;exact ok
   ·rw[List.append_assoc] at r;exact r
   ·simp only[Bm,List.append_nil,List.append_assoc,List.nodup_append] at hd ⊢
    simp only[vals,List.map_nil,List.nil_append] at hd ⊢
    exact ⟨hd.2.1.1,hd.2.1.2.1,hd.2.1.2.2⟩
end
section
open Go.RowKit
variable {Tb:Ae}
set_option maxHeartbeats 2000000 in
theorem Yh (pp mb n:Nat) (o:TB) (t:TS) (Q:List Nat) (a:Nat) (lo hi:Int) (m:Nat) (key:Int) (v0:Nat) (L:List E) (hP:RmPre n t Q a 0 lo hi m key v0 L):Cn prog 48 [Pt_ pp,Iv_ (a:Int),Iv_ key] [trA Tb pp mb n o (some (t,a::Q))] (fun v Γ=>JN Tb pp mb n o t Q 0 lo hi m key L v Γ):=by
 intro z R w H;replace H:=H.l1;have K:=H.says 0 rfl (fun h a=>trA.k a)
 have hn:=K.hn
 have hkin:=hP.kin;have h0:=hP.l0;have h1048:=hP.h1;have hdL:=hP.d;have htk:=hP.hk;have htb:=hP.hb
 obtain ⟨hmm1,hmm2⟩:=hP.mm;obtain ⟨es,hN,hm,hrg,hok,hLes,hdt⟩:=hP.T;have hck:CkN true (kL es) (vL es):=K.i.vok (by omega) hn.2 hN
 have hnd:=(K.i.nds a _ hN).2.1
 obtain rfl:es=L:=hLes.symm;refine Ad func48 rfl ntmps48 rfl (Zc 11 rfl (Ax rfl (call88 _) (Ip pp mb n o t Q a true es hN (by omega) (by omega)) H ?_));rintro _ w _ (⟨hnone,v1,v2,s,rfl,rfl⟩|⟨t1,c,v1,v2,O,rfl,rfl⟩) H'
 ·have H:=H'.l3;have sv1:=H.says 0 rfl (fun h q=>q.slc)
  have sv2:=H.says 1 rfl (fun h q=>q.slc)
  refine Za 4 [] H rfl ?_;intro b3 w H;refine Zc 1 rfl (AB rfl rfl (Ai 0 H rfl rfl rfl rfl (vs:=[.bool true,v1,v2]) rfl (Ac rfl (Ac sv1.one (Ac sv2.one Au))) (by kernel_rfl) (by simp) (out:=[.bool true,v1,v2]) rfl) ?_);rintro w H;replace H:=H.l4;refine Z0 20 [3] rfl (Zr rfl ?_);exact ⟨_,.inl ⟨by omega,_,rfl,rfl⟩,H.perm 4 [3] rfl rfl⟩
 ·have H:=H'.l3;have sv1:=H.says 0 rfl (fun h q=>q.slc)
  have sv2:=H.says 1 rfl (fun h q=>q.slc)
  refine Za 4 [] H rfl ?_;intro b4 w H;refine Zc 1 rfl (AB rfl rfl (Ai 0 H rfl rfl rfl rfl (vs:=[.bool true,v1,v2]) rfl (Ac rfl (Ac sv1.one (Ac sv2.one Au))) (by kernel_rfl) (by simp) (out:=[.bool true,v1,v2]) rfl) ?_);rintro w H;replace H:=H.l4;refine Z2 25 [4,0,0,0,0,3] H rfl (Ax rfl (call43 _) (M5 (es:=es) (fun h q=>q.rd) (fun h q=>q.rd) hok.len hok.srt key) H.f2.f2 ?_);rintro _ w _ (⟨X,vd,Y,⟨hes,hX⟩,rfl,rfl⟩|⟨hno,i0,rfl,rfl⟩) H'
  ·have H:=H'.l4;refine Zc 9 rfl ?_;have hv1:∀ d,t1.N vd≠some (.nd d):=fun d q=>by obtain ⟨b,hb⟩:=hdt (key,vd) (by rw[hes];simp);rw[O.dv vd (by rw[hes];simp[vals]) b hb] at q;cases q
   obtain ⟨hdel,hBd2,hr2,ho2,hd2⟩:=TA (N:=t1.N) (by rw[←hes];exact hok) (by rw[←hes];exact hrg) (fun e he=>by obtain ⟨b,hb⟩:=hdt e (by rw[hes];exact he);exact ⟨b,O.dv _ (by rw[hes];exact List.mem_map_of_mem he) b hb⟩) (by rw[←hes];exact hnd);obtain ⟨ao2,cc2,rfl⟩:=sv2;have hat:=(H.rd 1 rfl (fun h q=>q.rd)).at (j:=X.length) (u:=Iv_ (vd:Int)) (by rw[hes];simp[vL])
   replace H:=(H.mono 3 (B:=trA Tb pp mb n o (some (t1,vd::(c::(vals (X++Y)++Q))))) rfl (fun h q=>q.perm (by rw[hes];exact Wt))).l4
   refine Z2 5 [2,2,0] H rfl (Ab rfl (Aj rfl (z:=1) (j:=X.length) (r:=X.length) (by kernel_rfl) rfl rfl rfl (by rw[hes];simp) hat (by omega)) (Ab rfl (Av rfl rfl (by kernel_rfl) (Aq hat)) (Ax rfl (call49 _) (FU pp mb n o t1 _ vd hv1) H.f3 ?_)));rintro _ w _ ⟨t2,⟨hS2,hq2,hC2,hN2,hF2⟩,rfl,rfl⟩ H;refine Z2 16 [4,3,3] H rfl ?_;have hvr:∀ v∈vals (X++Y),1≤v∧v<1024:=fun v hv=>by have K2:=H.says 0 rfl (fun h a=>trA.k a);have:=K2.i.rin v (by simp[Cb,hv]);omega
   refine Ax rfl (call91 _) (X5 (lf:=true) (X:=X) (e:=(key,vd)) (Y:=Y) (by rw[←hes];exact (fun h q=>q.rd)) (by rw[←hes];exact (fun h q=>q.rd)) (by rw[←hes];exact hck) (CkN.of ho2 hvr)) H.f2.f2 ?_;rintro _ w _ ⟨v5,v6,rfl,rfl⟩ H;replace H:=H.l6;have sv5:=H.says 0 rfl (fun h q=>q.slc)
   have sv6:=H.says 1 rfl (fun h q=>q.slc)
   refine Zc 3 rfl (AB rfl rfl (Ai 5 H rfl rfl rfl rfl (vs:=[.bool true,v5,v6]) rfl (Ac rfl (Ac sv5.one (Ac sv6.one Au))) (by kernel_rfl) (by simp) (out:=[.bool true,v5,v6]) rfl) ?_);rintro w H;replace H:=H.l6;refine Z0 14 [4] rfl ?_;replace H:=H.f5;refine AI (Sep z (blk b4 [.bool true,v5,v6] 54::R)) 11 rfl (by kernel_rfl) (A9 H fun w H'=> ?_)
   have H:=H'.l6;refine AN [0,1,2] [1,0,0] [] (by exact (H.pick 6 [0] rfl)) rfl (by kernel_rfl) rfl (BC 3 rfl (by kernel_rfl) (by kernel_rfl) (by kernel_rfl) rfl rfl rfl (DU rfl (sz:=1) (by kernel_rfl) rfl sv5) (H.pick 6 [0] rfl) (AN [4,5,6] [0,3] [] (by exact (H.pick 6 [0] rfl)) rfl (by kernel_rfl) rfl (Az [7] (by kernel_rfl) (by simp) (Ay (BH rfl rfl rfl rfl rfl rfl (fun w=>call90 _ w) (E2 pp mb n o t2 Q c true _ _ (X++Y) _ _ (fun h q=>q.rd) (fun h q=>q.rd) 0 lo hi (X++Y).length (X++Y) (hS2.bd (fun v hv=>by simp[hv]) hBd2) rfl hr2 (Nat.le_refl _) ho2 hd2 (hS2.op c (by simp) O.N0 O.C1).2 (hS2.op c (by simp) O.N0 O.C1).1 (by have:=O.st.k;have:=hS2.k;omega)) H.f2.f2.f5 rfl ?_)))));rintro _ w _ ⟨t3,⟨hSt3,hT3,hC3,hN3⟩,rfl,rfl⟩ H;replace H:=H.l6;refine Ap (H.pick 6 [3] rfl) (AN [8,9,10] [] [] (by exact (H.pick 6 [3] rfl)) rfl (by kernel_rfl) rfl (a_done (by kernel_rfl) (gn (Zc 2 rfl (Zr rfl ?_)))));exact ⟨_,.inr ⟨t3,c,X++Y,⟨((O.st.sub (R':=Q) (fun p hp=>hp) (Nat.le_refl _) (Nat.le_refl _)).trans hS2 (R:=Q) (R1:=Q) (fun p hp=>hp) (fun p hp=>by simp[hp]) (e:=1) (f:=1) (by omega) (by omega)).trans hSt3 (fun p hp=>hp) (fun p hp=>hp) (by omega) (by omega),by rw[hes,hdel];exact hT3,by rw[hN3];exact Bg _ _ _,by rw[hC3];exact (hS2.op c (by simp) O.N0 O.C1).2,by have:es.length=X.length+Y.length+1:=(by rw[hes];simp;omega);simp only[List.length_append];omega⟩,congrArg (fun q:Int=>Value.tuple #[Iv_ (c:Int),Iv_ q,Iv_ 0]) (by simp),rfl⟩,H.perm 6 [0] rfl rfl⟩
  ·exact absurd ⟨v0,hkin⟩ hno
set_option maxHeartbeats 4000000 in
theorem Yi (pp mb n:Nat) (o:TB) (t:TS) (Q:List Nat) (h:Nat) (ih:∀ (t:TS) (Q:List Nat) (a:Nat) (lo hi:Int) (m:Nat) (key:Int) (v0:Nat) (L:List E),RmPre n t Q a h lo hi m key v0 L→Cn prog 48 [Pt_ pp,Iv_ (a:Int),Iv_ key] [trA Tb pp mb n o (some (t,a::Q))] (fun v Γ=>JN Tb pp mb n o t Q h lo hi m key L v Γ)) (a:Nat) (lo hi:Int) (m:Nat) (key:Int) (v0:Nat) (L:List E) (hP:RmPre n t Q a (h+1) lo hi m key v0 L):Cn prog 48 [Pt_ pp,Iv_ (a:Int),Iv_ key] [trA Tb pp mb n o (some (t,a::Q))] (fun v Γ=>JN Tb pp mb n o t Q (h+1) lo hi m key L v Γ):=by
 intro z R w H;replace H:=H.l1;have K:=H.says 0 rfl (fun h a=>trA.k a)
 have hn:=K.hn
 have hkin:=hP.kin;have h0:=hP.l0;have h1048:=hP.h1;have hdL:=hP.d;have htk:=hP.hk;have htb:=hP.hb
 obtain ⟨hmm1,hmm2⟩:=hP.mm;obtain ⟨es,hN,hm,hrg,hok,hBd⟩:=hP.T;refine Ad func48 rfl ntmps48 rfl (Zc 11 rfl (Ax rfl (call88 _) (Ip pp mb n o t Q a false es hN (by omega) (by omega)) H ?_));rintro _ w _ (⟨hnone,v1,v2,s,rfl,rfl⟩|⟨t1,c,v1,v2,O,rfl,rfl⟩) H'
 ·have H:=H'.l3;have sv1:=H.says 0 rfl (fun h q=>q.slc)
  have sv2:=H.says 1 rfl (fun h q=>q.slc)
  refine Za 4 [] H rfl ?_;intro b3 w H;refine Zc 1 rfl (AB rfl rfl (Ai 0 H rfl rfl rfl rfl (vs:=[.bool false,v1,v2]) rfl (Ac rfl (Ac sv1.one (Ac sv2.one Au))) (by kernel_rfl) (by simp) (out:=[.bool false,v1,v2]) rfl) ?_);rintro w H;replace H:=H.l4;refine Z0 20 [3] rfl (Zr rfl ?_);exact ⟨_,.inl ⟨by omega,_,rfl,rfl⟩,H.perm 4 [3] rfl rfl⟩
 ·have H:=H'.l3;have sv1:=H.says 0 rfl (fun h q=>q.slc)
  have sv2:=H.says 1 rfl (fun h q=>q.slc)
  refine Za 4 [] H rfl ?_;intro b4 w H;refine Zc 1 rfl (AB rfl rfl (Ai 0 H rfl rfl rfl rfl (vs:=[.bool false,v1,v2]) rfl (Ac rfl (Ac sv1.one (Ac sv2.one Au))) (by kernel_rfl) (by simp) (out:=[.bool false,v1,v2]) rfl) ?_);rintro w H;replace H:=H.l4;refine Z2 27 [4,0,0,0,0,3] H rfl (Ax rfl (call44 _) (Kt (es:=es) (fun h q=>q.rd) (fun h q=>q.rd) hok.len hok.srt (hok.ne rfl) key) H.f2.f2 ?_);rintro _ w _ ⟨X,e,Y,⟨hes,hX,hXe,hY⟩,rfl,rfl⟩ H;refine Zc 4 rfl ?_;obtain ⟨ao2,cc2,rfl⟩:=sv2;have hat:=(H.rd 1 rfl (fun h q=>q.rd)).at (j:=X.length) (u:=Iv_ (e.2:Int)) (by rw[hes];simp[vL])
  replace H:=(H.mono 3 (B:=trA Tb pp mb n o (some (t1,e.2::(c::(vals X++(vals Y++Q)))))) rfl (fun h q=>q.perm (by rw[hes];exact Tz))).l4
  have hs1:Srt (X++e::Y):=by rw[←hes];exact hok.srt
  have hr1:Bx lo hi (X++e::Y):=by rw[←hes];exact hrg
  have ho1:(Nd.mk false (X++e::Y)).Ok:=by rw[←hes];exact hok
  obtain ⟨L0,Lc,L2,⟨hq0,hqc,hq2⟩,hLe,hLd,hkc,hb1,hb4⟩:=Y4 hs1 hr1 (by rw[←hes];exact O.bd hBd) hX hY hkin;have hel:X.length+Y.length+1=es.length:=by rw[hes];simp;omega
  have hes8:es.length≤8:=hok.len
  have hdc:(vals Lc).Nodup:=by rw[hLe,Bm,Bm,List.nodup_append] at hdL;have h5:=hdL.2.1;rw[List.nodup_append] at h5;exact h5.1
  refine Z2 5 [2,2,0] H rfl (Ab rfl (Aj rfl (z:=1) (j:=X.length) (r:=X.length) (by kernel_rfl) rfl rfl rfl (by rw[hes];simp) hat (by omega)) (Ab rfl (Av rfl rfl (by kernel_rfl) (Aq hat)) (Zc 1 rfl (Ax rfl (call48 _) (ih t1 (c::(vals X++(vals Y++Q))) e.2 e.1 (nx Y hi) 4 key v0 Lc ⟨hqc,hkc,by omega,by omega,hdc,⟨by omega,fun _=>by omega⟩,by have:=O.st.k;omega,by simp only[List.length_cons,List.length_append,I5];omega⟩) H.f3 ?_))));rintro _ w _ (⟨hf2,s2,rfl,rfl⟩|⟨t2,c2,es',⟨hSt2,hT2,hN2,hC2,hm2⟩,rfl,rfl⟩) H'
  ·have H:=H'.l4;refine Z0 26 [3] rfl (Zr rfl ?_);exact ⟨_,.inl ⟨by have:=O.st.f;omega,_,rfl,rfl⟩,H.perm 4 [0] rfl rfl⟩
  ·have H:=H'.l4;refine Z0 20 [4] rfl ?_;have hXl:X.length<es.length:=by rw[hes];simp
   have hnev:0<(vL es).length:=by simp only[List.length_map];omega
   obtain ⟨gv_,cap_gv_,rest_gv_,hgq,c1gv_,c2gv_,c3gv_,H'⟩:=H.ungrow 2 rfl hnev;cases hgq;clear H;have H:=H'.l4;refine Z2 5 [2,3,0] H rfl (Ab rfl (B5 rfl (z:=1) (j:=X.length) (r:=X.length) (by kernel_rfl) rfl rfl rfl (by simp only[List.length_map];omega) (by omega)) (AB rfl rfl (Ai 2 H rfl rfl rfl rfl (vs:=[Iv_ (c2:Int)]) rfl (by simp[u8,u32,Value.oneCell']) (by kernel_rfl) (by simp only[List.length_append,List.length_map,List.length_cons,List.length_nil];omega) (out:=(((vL es).set X.length (c2:Int)).map Iv_++rest_gv_)) (Dj (by simp only[List.length_map];omega))) ?_));rintro w H;replace H:=H.l4;refine Zc 4 rfl ?_;have hlv:(vL es).length=(vL (X++(e.1,c2)::Y)).length:=by rw[hes];simp
   have hvs:(vL es).set X.length (c2:Int)=vL (X++(e.1,c2)::Y):=by rw[hes];simp[vL,List.set_append]
   have hke:kL es=kL (X++(e.1,c2)::Y):=by rw[hes];simp[kL]
   have hkl:(kL es).length=es.length:=by simp
   obtain ⟨ho2,hr2⟩:=rm_node c2 ho1 hr1;have hs0:Sq (fun c a b L=>Tr t2.N h c a b 4 L) X e.1 L0:=Sq.st hSt2 (fun v hv=>by simp[hv]) hq0
   have hs2:Sq (fun c a b L=>Tr t2.N h c a b 4 L) Y hi L2:=Sq.st hSt2 (fun v hv=>by simp[hv]) hq2
   have hE2:(X++(e.1,c2)::Y).length=es.length:=by simp only[List.length_append,List.length_cons];omega
   have hcO:=hSt2.op c (by simp) O.N0 O.C1
   have hdL2:(vals (L0++(AV key Lc++L2))).Nodup:=by rw[←hLd];exact Hf hdL
   replace H:=(H.mono 2 (B:=grow 3 1 (.slice (some ⟨gv_,0,none⟩) ((vL es).length) cc2) ((vL es).length) ((vL (X++(e.1,c2)::Y)).map Iv_)) rfl (fun h q=>q.grow (by omega) (by omega) (by simp only[List.length_append,List.length_map,List.length_set];simp only[List.length_map] at *;omega) (by rw[Nat.mul_one,List.take_left' (by simp),hvs]))).l4
   replace H:=(H.mono 0 (B:=trA Tb pp mb n o (some (t2,vals (X++(e.1,c2)::Y)++(c::Q)))) rfl (fun h q=>q.perm Ra)).l4
   refine Z0 4 [0] rfl (Al 87 rfl (fun h1=> ?_) (fun h1=> ?_))
   ·refine Z2 2 [1,3,0] H rfl (Ab rfl (DU rfl (sz:=1) (by kernel_rfl) rfl sv1) (Z0 4 [0] rfl (Af rfl (fun h2=> ?_) (fun h2=> ?_))))
    ·refine Zc 1 rfl ?_;have hm23:3≤es'.length:=by omega
     obtain ⟨U,V,f1,f2,m2,m3,M0,Ma,Mb,M2,hU,hmin,hMM,hMn⟩:=rm_pick (n:=n) (t:=t2) (Q:=c::Q) ho2 hr2 hs0 hT2 hs2 hm23 (by omega) h0 h1048 hdL2 (by have:=O.st.k;have:=hSt2.k;omega) (by simp only[List.length_cons];omega);replace H:=(H.mono 1 (B:=grow 3 1 v1 ((kL (U++f1::f2::V)).length) ((kL (U++f1::f2::V)).map Iv_)) rfl (fun h q=>by rw[←hU,←hke];exact q)).l4
     replace H:=(H.mono 2 (B:=grow 3 1 (.slice (some ⟨gv_,0,none⟩) ((vL es).length) cc2) ((vL (U++f1::f2::V)).length) ((vL (U++f1::f2::V)).map Iv_)) rfl (fun h q=>by rw[←hU,←hlv];exact q)).l4
     replace H:=(H.mono 0 (B:=trA Tb pp mb n o (some (t2,vals (U++f1::f2::V)++(c::Q)))) rfl (fun h q=>by rw[←hU];exact q)).l4
     refine Z2 6 [3,3,1,3,0] H rfl (Ab rfl (DU rfl (sz:=1) (by kernel_rfl) rfl sv1) (Z1 1 [] [(((kL es).length:Nat):Int) - 2] rfl (by omega) (Ab rfl (Je rfl rfl rfl) (AC 101 (v:=Iv_ (U.length:Int)) rfl (congrArg Iv_ (by rw[←hmin,hE2,hkl])) (Ax rfl (call92 _) (Yg pp mb n o t2 (c::Q) _ _ h lo hi U V f1 f2 m2 m3 M0 Ma Mb M2 hMn) H ?_)))));rintro _ w _ (⟨hf3,v5,v6,es3,s3,rfl,rfl⟩|⟨t3,es3,v5,v6,⟨hSt3,hB3,hr3,ho3,hd3,hl3⟩,rfl,rfl⟩) H'
     ·have H:=H'.l4;have sv5:=H.says 0 rfl (fun h q=>q.slc)
      have sv6:=H.says 1 rfl (fun h q=>q.slc)
      refine Zc 3 rfl (AB rfl rfl (Ai 3 H rfl rfl rfl rfl (vs:=[.bool false,v5,v6]) rfl (Ac rfl (Ac sv5.one (Ac sv6.one Au))) (by kernel_rfl) (by simp) (out:=[.bool false,v5,v6]) rfl) ?_);rintro w H;replace H:=H.l4;refine Z0 19 [3] rfl (Zr rfl ?_);exact ⟨_,.inl ⟨by have:=O.st.f;have:=hSt2.f;omega,_,rfl,rfl⟩,H.perm 4 [2] rfl rfl⟩
     ·have H:=H'.l4;have sv5:=H.says 0 rfl (fun h q=>q.slc)
      have sv6:=H.says 1 rfl (fun h q=>q.slc)
      refine Zc 3 rfl (AB rfl rfl (Ai 3 H rfl rfl rfl rfl (vs:=[.bool false,v5,v6]) rfl (Ac rfl (Ac sv5.one (Ac sv6.one Au))) (by kernel_rfl) (by simp) (out:=[.bool false,v5,v6]) rfl) ?_);rintro w H;replace H:=H.l4;refine Z0 13 [4] rfl ?_;have hcO3:=hSt3.op c (by simp) hcO.1 hcO.2
      replace H:=(H.mono 2 (B:=trA Tb pp mb n o (some (t3,c::(vals es3++Q)))) rfl (fun h q=>q.perm K0)).l4
      replace H:=H.f3;refine AI (Sep z (blk b4 [.bool false,v5,v6] 54::R)) 11 rfl (by kernel_rfl) (A9 H fun w H'=> ?_)
      have H:=H'.l4;refine AN [0,1,2] [1,0,0] [] (by exact (H.pick 4 [0] rfl)) rfl (by kernel_rfl) rfl (BC 3 rfl (by kernel_rfl) (by kernel_rfl) (by kernel_rfl) rfl rfl rfl (DU rfl (sz:=1) (by kernel_rfl) rfl sv5) (H.pick 4 [0] rfl) (AN [4,5,6] [0,3] [] (by exact (H.pick 4 [0] rfl)) rfl (by kernel_rfl) rfl (Az [7] (by kernel_rfl) (by simp) (Ay (BH rfl rfl rfl rfl rfl rfl (fun w=>call90 _ w) (E2 pp mb n o t3 Q c false _ _ es3 _ _ (fun h q=>q.rd) (fun h q=>q.rd) (h+1) lo hi es3.length (AV key L) (by rw[hLd,hMM];exact hB3) (by simp) hr3 (Nat.le_refl _) ho3 hd3 hcO3.2 hcO3.1 (by have:=O.st.k;have:=hSt2.k;have:=hSt3.k;omega)) H.f2.f2.f3 rfl ?_)))));rintro _ w _ ⟨t4,⟨hSt4,hT4,hC4,hN4⟩,rfl,rfl⟩ H;replace H:=H.l4;refine Ap (H.pick 4 [3] rfl) (AN [8,9,10] [] [] (by exact (H.pick 4 [3] rfl)) rfl (by kernel_rfl) rfl (a_done (by kernel_rfl) (gn (Zc 2 rfl (Zr rfl ?_)))));exact ⟨_,.inr ⟨t4,c,es3,⟨(((O.st.sub (R':=Q) (fun p hp=>hp) (Nat.le_refl _) (Nat.le_refl _)).trans hSt2 (R:=Q) (R1:=Q) (fun p hp=>hp) (fun p hp=>by simp[hp]) (Nat.le_refl _) (Nat.le_refl _)).trans hSt3 (R:=Q) (R1:=Q) (fun p hp=>hp) (fun p hp=>by simp[hp]) (Nat.le_refl _) (Nat.le_refl _)).trans hSt4 (fun p hp=>hp) (fun p hp=>hp) (by omega) (by omega),hT4,by rw[hN4];simp[Bg],by rw[hC4];exact hcO3.2,by rw[←hU,hE2] at hl3;omega⟩,congrArg (fun q:Int=>Value.tuple #[Iv_ (c:Int),Iv_ q,Iv_ 0]) (by simp),rfl⟩,H.perm 4 [0] rfl rfl⟩
    ·(exfalso;have:=hmm2 (by omega);simp only[List.length_map] at *;omega)
   ·refine Zc 11 rfl ?_;have hB3:Bd t2.N (h+1) (X++(e.1,c2)::Y) hi (L0++(AV key Lc++L2)):=Sq.mk (e:=(e.1,c2)) hs0 (hT2.mono (Int.le_refl _) (Int.le_refl _) (by omega)) hs2
    replace H:=(H.mono 0 (B:=trA Tb pp mb n o (some (t2,c::(vals (X++(e.1,c2)::Y)++Q)))) rfl (fun h q=>q.perm K0)).l4
    replace H:=(H.mono 1 (B:=grow 3 1 v1 ((kL es).length) ((kL (X++(e.1,c2)::Y)).map Iv_)) rfl (fun h q=>by rw[←hke];exact q)).l4
    replace H:=H.f3;refine AI (Sep z (blk b4 [.bool false,v1,.slice (some ⟨gv_,0,none⟩) ((vL es).length) cc2] 54::R)) 11 rfl (by kernel_rfl) (A9 H fun w H'=> ?_)
    have H:=H'.l4;refine AN [0,1,2] [1,0,0] [] (by exact (H.pick 4 [0] rfl)) rfl (by kernel_rfl) rfl (BC 3 rfl (by kernel_rfl) (by kernel_rfl) (by kernel_rfl) rfl rfl rfl (DU rfl (sz:=1) (by kernel_rfl) rfl sv1) (H.pick 4 [0] rfl) (AN [4,5,6] [0,3] [] (by exact (H.pick 4 [0] rfl)) rfl (by kernel_rfl) rfl (Az [7] (by kernel_rfl) (by simp) (Ay (BH rfl rfl rfl rfl rfl rfl (fun w=>call90 _ w) (E2 pp mb n o t2 Q c false _ _ (X++(e.1,c2)::Y) _ _ (fun h q=>by rw[←hke];rw[←hke] at q;exact q.rd) (fun h q=>by rw[←hlv];exact q.rd) (h+1) lo hi (X++(e.1,c2)::Y).length (AV key L) (by rw[hLd];exact hB3) (by simp) hr2 (Nat.le_refl _) ho2 (hB3.nodup ho2.srt (fun x hx=>(hr2 x hx).2)) hcO.2 hcO.1 (by have:=O.st.k;have:=hSt2.k;omega)) H.f3.f3.f3 rfl ?_)))));rintro _ w _ ⟨t4,⟨hSt4,hT4,hC4,hN4⟩,rfl,rfl⟩ H;replace H:=H.l4;refine Ap (H.pick 4 [3] rfl) (AN [8,9,10] [] [] (by exact (H.pick 4 [3] rfl)) rfl (by kernel_rfl) rfl (a_done (by kernel_rfl) (gn (Zc 2 rfl (Zr rfl ?_)))));exact ⟨_,.inr ⟨t4,c,(X++(e.1,c2)::Y),⟨((O.st.sub (R':=Q) (fun p hp=>hp) (Nat.le_refl _) (Nat.le_refl _)).trans hSt2 (R:=Q) (R1:=Q) (fun p hp=>hp) (fun p hp=>by simp[hp]) (Nat.le_refl _) (Nat.le_refl _)).trans hSt4 (fun p hp=>hp) (fun p hp=>hp) (by omega) (by omega),hT4,by rw[hN4];simp[Bg],by rw[hC4];exact hcO.2,by rw[hE2];omega⟩,congrArg (fun q:Int=>Value.tuple #[Iv_ (c:Int),Iv_ q,Iv_ 0]) (by simp only[List.length_map];omega),rfl⟩,H.perm 4 [0] rfl rfl⟩
end
section
open Go.RowKit
variable {Tb:Ae}
theorem M9 (pp mb n:Nat) (o:TB):∀ (h:Nat) (t:TS) (Q:List Nat) (a:Nat) (lo hi:Int) (m:Nat) (key:Int) (v0:Nat) (L:List E),RmPre n t Q a h lo hi m key v0 L→Cn prog 48 [Pt_ pp,Iv_ (a:Int),Iv_ key] [trA Tb pp mb n o (some (t,a::Q))] (fun v Γ=>JN Tb pp mb n o t Q h lo hi m key L v Γ)
 | 0=>fun t Q a lo hi m key v0 L hP=>Yh pp mb n o t Q a lo hi m key v0 L hP
 | h+1=>fun t Q a lo hi m key v0 L hP=>Yi pp mb n o t Q h (M9 pp mb n o h) a lo hi m key v0 L hP
abbrev rootM (h:Nat):Nat:=if h=0 then 1 else 2
theorem Tr.data {N:Hm} {h r:Nat} {lo hi:Int} {m:Nat} {L:List E} (t:Tr N h r lo hi m L):∀ e∈L,∃ b,N e.2=some (.dt b):=by
 induction h generalizing r lo hi m L with
 | zero=>obtain ⟨es,_,_,_,_,rfl,h⟩:=t;exact h
 | succ h ih=>
  obtain ⟨es,_,_,_,_,h5⟩:=t
  have key:∀ (es:List E) (L:List E),Sq (fun c a b L=>Tr N h c a b 4 L) es hi L→∀ e∈L,∃ b,N e.2=some (.dt b):=by
   intro es
   induction es with
   | nil=>intro L q;have q:L=[]:=q;subst q;simp
   | cons e u ih2=>
    rintro _ ⟨L1,L2,rfl,h6,h7⟩ x hx
    rcases List.mem_append.1 hx with hx|hx
    ·exact ih h6 x hx
    ·exact ih2 L2 h7 x hx
  exact key es L h5
theorem delR_none {N:Hm} {h c:Nat} {lo hi:Int} {m:Nat} {L es:List E} {lf:Bool} (t:Tr N h c lo hi m L) (hN:N c=some (.nd ⟨lf,es⟩)) (h0:es.length=0):L=[]:=by
 have he:es=[]:=List.length_eq_zero_iff.1 h0
 subst he
 obtain ⟨es',h1,_,_,h4,h5⟩:=Tr.iff.1 t
 rw[h1] at hN;cases hN
 cases h with
 | zero=>exact h5.1
 | succ h=>exact absurd rfl (h4.ne (by simp))
theorem TC {N:Hm} {h c:Nat} {m:Nat} {L es:List E} {lf:Bool} (t:Tr N h c 0 1048576 m L) (hN:N c=some (.nd ⟨lf,es⟩)) (h1:es.length=1) (hh:h≠0):∃ e h',es=[e]∧h=h'+1∧Tr N h' e.2 0 1048576 4 L:=by
 obtain ⟨e,rfl⟩:=List.length_eq_one_iff.1 h1
 obtain ⟨h',rfl⟩:∃ h',h=h'+1:=⟨h - 1,by omega⟩
 obtain ⟨es',h2,_,h3,h4,h5⟩:=t
 rw[h2] at hN;cases hN
 obtain ⟨L1,L2,rfl,h6,h7⟩:=h5
 have h7:L2=[]:=h7
 subst h7
 have:=h3 e (by simp)
 refine ⟨e,h',rfl,rfl,?_⟩
 rw[List.append_nil]
 exact h6.mono this.1 (Int.le_refl _) (Nat.le_refl _)
theorem root_of {N:Hm} {h r:Nat} {m:Nat} {L:List E} (t:Tr N h r 0 1048576 m L) (hm:rootM h≤m) (hr:r≠0):Root N r L:= .inr ⟨hr,h,t.mono (Int.le_refl _) (Int.le_refl _) hm⟩
theorem Cz {r:Nat} (h:r≠0):AW r=[r]:=by simp[AW,h]
end
section
open Go.RowKit
variable {Tb:Ae}
theorem TD {n:Nat} {o:TB} {T:TT} (K:TrK n o T) {h r:Nat} {lo hi:Int} {m:Nat} {L:List E} (t:Tr (DQ o T) h r lo hi m L) {key:Int} {v0:Nat} (hk:(key,v0)∈L):1≤v0:=by
 have:∃ b,DQ o T v0=some (.dt b):=Tr.data t (key,v0) hk
 obtain ⟨b,hb⟩:=this
 have:=(K.i.nin v0 _ hb).1
 omega
set_option maxHeartbeats 2000000 in
theorem Yj (pp mb n:Nat) (o:TB) (t:TS) (Q:List Nat) (h a:Nat) (key:Int) (L:List E) (hT:Tr t.N h a 0 1048576 (rootM h) L) (hd:(vals L).Nodup) (hk:t.k+6 * h+4<40) (hb:Q.length+10 * h+42+n≤980):Cn prog 18 [Pt_ pp,Iv_ (a:Int),Iv_ key] [trA Tb pp mb n o (some (t,a::Q))] (fun v Γ=>(¬ Cy key L∧v= .tuple #[Iv_ (a:Int),.bool false,Iv_ 0]∧Γ=[trA Tb pp mb n o (some (t,a::Q))])∨(cnt t.F 0 1024≤3 * h∧∃ s:TS×List Nat,v= .tuple #[Iv_ 0,.bool false,Iv_ 20]∧Γ=[trA Tb pp mb n o (some s)])∨∃ (t2:TS) (r:Nat),(Cy key L∧St t t2 Q (3 * h+2) (6 * h+3)∧Root t2.N r (AV key L))∧v= .tuple #[Iv_ (r:Int),.bool true,Iv_ 0]∧Γ=[trA Tb pp mb n o (some (t2,AW r++Q))]):=by
 intro z R w H;replace H:=H.l1;have K:=H.says 0 rfl (fun h a=>trA.k a)
 have hn:=K.hn
 refine Ad func18 rfl ntmps18 rfl (Zc 11 rfl (z_E_ rfl (call45 _) (JM pp mb n o _) H ?_));intro w H;refine Z0 17 [4] rfl (Ax rfl (call14 _) (OB pp mb n o (some (t,a::Q)) key L h a _ _ _ hT) H ?_);rintro _ w _ ⟨(⟨v0,hkin,rfl⟩|⟨hno,rfl⟩),rfl⟩ H'
 ·have H:=H'.l1;refine Zc 9 rfl ?_;have hv00:1≤v0:=TD K hT hkin
  refine Z0 9 [4,0] rfl (Af rfl (fun h1=> ?_) (fun h1=> ?_))
  ·(exfalso;omega)
  ·refine Zc 7 rfl (Ax rfl (call48 _) (M9 pp mb n o h t Q a 0 1048576 (rootM h) key v0 L ⟨hT,hkin,by omega,by omega,hd,⟨by unfold rootM;split<;>omega,fun q=>by unfold rootM;rw[if_neg q];omega⟩,hk,hb⟩) H ?_);rintro _ w _ (⟨hf2,s2,rfl,rfl⟩|⟨t2,c,es',⟨hSt2,hT2,hN2,hC2,hm2⟩,rfl,rfl⟩) H'
   ·have H:=H'.l1;refine Z0 26 [3] rfl (Zr rfl ?_);exact ⟨_,.inr (.inl ⟨hf2,_,rfl,rfl⟩),H.perm 1 [0] rfl rfl⟩
   ·have H:=H'.l1;refine Z0 23 [4] rfl (Ax rfl (call24 _) (FV pp mb n o (some (t2,c::Q)) c (decide (h=0)) es' hN2) H ?_);rintro _ w _ ⟨v1,v2,rfl,rfl⟩ H;replace H:=H.l3;have sv1:=H.says 0 rfl (fun h q=>q.slc)
    have sv2:=H.says 1 rfl (fun h q=>q.slc)
    refine Za 3 [] H rfl ?_;intro b3 w H;refine AB rfl rfl (Ai 0 H rfl rfl rfl rfl (vs:=[.bool (decide (h=0)),v1,v2]) rfl (Ac rfl (Ac sv1.one (Ac sv2.one Au))) (by kernel_rfl) (by simp) (out:=[.bool (decide (h=0)),v1,v2]) rfl) ?_;rintro w H;replace H:=H.l4;refine Z0 20 [4,0] rfl (Af rfl (fun h2=> ?_) (fun h2=> ?_))
    ·refine Zc 1 rfl ?_;have hes0:es'=[]:=List.length_eq_zero_iff.1 (by omega)
     have O2:=Kq (show TInv n (manyN n+1) t2.N t2.C (c::Q) from (H.says 3 rfl (fun h a=>trA.k a)).i) hC2 hN2
     replace H:=(H.mono 3 (B:=trA Tb pp mb n o (some ({ t2 with N:=fup t2.N c none },c::(vals es'++Q)))) rfl (fun h q=>q.opens hC2 hN2)).l4
     refine Zc 3 rfl (Ax rfl (call49 _) (FU pp mb n o _ _ c (fun d q=>by simp[fup] at q)) H.f3 ?_);rintro _ w _ ⟨t3,⟨hS3,hq3,hC3,hN3,hF3⟩,rfl,rfl⟩ H;refine Zc 6 rfl (Zr rfl ?_);exact ⟨_,.inr (.inr ⟨t3,0,⟨⟨v0,hkin⟩,(hSt2.trans O2.st (R:=Q) (R1:=Q) (fun p hp=>hp) (fun p hp=>hp) (Nat.le_refl _) (Nat.le_refl _)).trans hS3 (fun p hp=>hp) (fun p hp=>by simp[hp]) (by omega) (by omega),.inl ⟨rfl,delR_none hT2 hN2 (by omega)⟩⟩,rfl,by rw[hes0];rfl⟩),H.perm 4 [0] rfl rfl⟩
    ·refine Z2 6 [0,0,0] H rfl (FE 66 rfl (fun h3=> ?_) (fun h3=> ?_))
     ·have hh0:h≠0:=by simpa using h3
      refine Z0 6 [0] rfl (Af rfl (fun h4=> ?_) (fun h4=> ?_))
      ·refine Zc 1 rfl ?_;obtain ⟨e,h',hes1,hhh,hTe⟩:=TC hT2 hN2 (by omega) hh0;have O2:=Kq (show TInv n (manyN n+1) t2.N t2.C (c::Q) from (H.says 3 rfl (fun h a=>trA.k a)).i) hC2 hN2
       replace H:=(H.mono 3 (B:=trA Tb pp mb n o (some ({ t2 with N:=fup t2.N c none },c::(vals es'++Q)))) rfl (fun h q=>q.opens hC2 hN2)).l4
       obtain ⟨ao2,cc2,rfl⟩:=sv2;have hat:=(H.rd 2 rfl (fun h q=>q.rd)).at (j:=0) (u:=Iv_ (e.2:Int)) (by rw[hes1];simp[vL])
       replace H:=(H.mono 3 (B:=trA Tb pp mb n o (some ({ t2 with N:=fup t2.N c none },c::(e.2::Q)))) rfl (fun h q=>by rw[hes1] at q;exact q)).l4
       replace H:=H.f2.f1;refine AI (Sep z (blk b3 [.bool (decide (h=0)),v1,.slice ao2 ((vL es').length) cc2] 54::grow 3 1 (.slice ao2 ((vL es').length) cc2) ((vL es').length) ((vL es').map Iv_)::R)) 10 rfl (by kernel_rfl) (A9 H fun w H'=> ?_)
       have H:=H'.l4;refine AN [0,1] [2,0,0] [] (by exact (H.pick 4 [0,1] rfl)) rfl (by kernel_rfl) rfl (BC 2 rfl (by kernel_rfl) (by kernel_rfl) (by kernel_rfl) rfl rfl rfl (Aj rfl (z:=1) (j:=0) (r:=0) (by kernel_rfl) rfl rfl rfl (by simp only[List.length_map];omega) hat (by omega)) (H.pick 4 [0,1] rfl) (BC 3 rfl (by kernel_rfl) (by kernel_rfl) (by kernel_rfl) rfl rfl rfl (Av rfl rfl (by kernel_rfl) (fun _ hx'=>(hx'.rd 1 rfl (fun h q=>q.rd)).at (j:=0) (u:=Iv_ (e.2:Int)) (by rw[hes1];simp[vL]))) (H.pick 4 [0,1] rfl) (AN [4,5] [] [] (by exact (H.pick 4 [0,1] rfl)) rfl (by kernel_rfl) rfl (Az [6] (by kernel_rfl) (by simp) (Ay (BH rfl rfl rfl rfl rfl rfl (fun w=>call49 _ w) (FU pp mb n o _ _ c (fun d q=>by simp[fup] at q)) H.f3 rfl ?_))))));rintro _ w _ ⟨t3,⟨hS3,hq3,hC3,hN3,hF3⟩,rfl,rfl⟩ H;replace H:=H.l4;refine Ap (H.pick 4 [1,2] rfl) (AN [7,8,9] [] [] (by exact (H.pick 4 [1,2] rfl)) rfl (by kernel_rfl) rfl (a_done (by kernel_rfl) (gn (Zc 2 rfl (Zr rfl ?_)))));have hr0:manyN n+1≤e.2:=by have K3:=H.says 0 rfl (fun h a=>trA.k a);exact (K3.i.rin e.2 (by simp[Cb])).1
       exact ⟨_,.inr (.inr ⟨t3,e.2,⟨⟨v0,hkin⟩,(hSt2.trans O2.st (R:=Q) (R1:=Q) (fun p hp=>hp) (fun p hp=>hp) (Nat.le_refl _) (Nat.le_refl _)).trans hS3 (fun p hp=>hp) (fun p hp=>by simp[hp]) (by omega) (by omega),root_of (hS3.fr e.2 (by simp) _ _ _ _ _ (O2.fv e.2 (by rw[hes1];simp[vals]) _ _ _ _ _ hTe)) (by unfold rootM;split<;>omega) (by omega)⟩,rfl,by rw[Cz (show e.2≠0 by omega)];rfl⟩),H.perm 4 [0] rfl rfl⟩
      ·refine Zc 12 rfl (Zr rfl ?_);have hr0:manyN n+1≤c:=by have K3:=H.says 3 rfl (fun h a=>trA.k a);exact (K3.i.rin c (by simp[Cb])).1
       exact ⟨_,.inr (.inr ⟨t2,c,⟨⟨v0,hkin⟩,hSt2.sub (fun p hp=>hp) (by omega) (by omega),root_of hT2 (by unfold rootM;split<;>omega) (by omega)⟩,rfl,by rw[Cz (show c≠0 by omega)];rfl⟩),H.perm 4 [3] rfl rfl⟩
     ·have hh1:h=0:=by simpa using h3
      refine Zc 19 rfl (Zr rfl ?_);have hr0:manyN n+1≤c:=by have K3:=H.says 3 rfl (fun h a=>trA.k a);exact (K3.i.rin c (by simp[Cb])).1
      exact ⟨_,.inr (.inr ⟨t2,c,⟨⟨v0,hkin⟩,hSt2.sub (fun p hp=>hp) (by omega) (by omega),root_of hT2 (by unfold rootM;split<;>omega) (by omega)⟩,rfl,by rw[Cz (show c≠0 by omega)];rfl⟩),H.perm 4 [3] rfl rfl⟩
 ·have H:=H'.l1;refine Z0 29 [4,3] rfl (Zr rfl ?_);exact ⟨_,.inl ⟨hno,rfl,rfl⟩,H.perm 1 [0] rfl rfl⟩
theorem Yk (pp mb n:Nat) (o:TB) (s:TS×List Nat) (key:Int):Cn prog 18 [Pt_ pp,Iv_ 0,Iv_ key] [trA Tb pp mb n o (some s)] (fun v Γ=>v= .tuple #[Iv_ 0,.bool false,Iv_ 0]∧Γ=[trA Tb pp mb n o (some s)]):=by
 intro z R w H;replace H:=H.l1;refine Ad func18 rfl ntmps18 rfl (Zc 11 rfl (z_E_ rfl (call45 _) (JM pp mb n o _) H ?_));intro w H;refine Z0 17 [4] rfl (z_E_ rfl (call14 _) (OC _ _) H ?_);intro w H;refine Z0 29 [4,3] rfl (Zr rfl ?_);exact ⟨_,⟨rfl,rfl⟩,H⟩
end
section
open Go.RowKit
variable {Tb:Ae}
def pkI (c:Int) (N:Nat):Nat:=((if c<0 then -(c+1) else c).tmod N).toNat
theorem Yl (c:Int) {N:Nat} (h:0<N):pkI c N<N:=by
 unfold pkI
 have h1:(0:Int)≤if c<0 then -(c+1) else c:=by split<;>omega
 have h2:=Int.tmod_lt_of_pos (if c<0 then -(c+1) else c) (by omega:(0:Int)<(N:Int))
 have h3:=Int.tmod_nonneg (N:Int) h1
 omega
def FY (kd fl:Int):Pg:=⟨kd,List.replicate 240 (E3 fl)⟩
theorem Ym {kd:Int} (fl:Int) (h:1≤kd∧kd≤5):(FY kd fl).Ok:=⟨h,by simp[FY]⟩
theorem OF (kd fl:Int):(FY kd fl).body.length=240:=by simp[FY]
theorem Rb (i:Nat) (x y:UInt8) (hi:i<240):((List.replicate i x++List.replicate (240 - i) y).map u8).take i++[u8 x]++((List.replicate i x++List.replicate (240 - i) y).map u8).drop (i+1)=(List.replicate (i+1) x++List.replicate (240 - (i+1)) y).map u8:=by
 rw[List.map_append,List.take_append_of_le_length (by simp),List.take_of_length_le (by simp),List.drop_append,List.drop_of_length_le (by simp),List.nil_append]
 simp only[List.map_replicate,List.length_replicate,List.drop_replicate]
 rw[show 240 - i - (i+1 - i)=240 - (i+1) from by omega,List.map_append,List.map_replicate,List.map_replicate,List.replicate_succ',List.append_assoc]
theorem Yn {n:Nat} (h:16≤n∧n≤1024):(B4 (n:Int) 1030 128 2).Ok ((1200:Nat):Int):=
 Sup.ok_mk (by show 0≤(2:Int)∧(2:Int)≤1099511627776;omega) (by show 0≤(1:Int)∧(1:Int)≤1099511627776;omega) (by show 16≤(n:Int)∧(n:Int)≤1024;omega) (by show 2+(n:Int)≤1030∧(1030:Int)≤1099511627776;omega) (by show 64≤(128:Int)∧(128:Int)≤1099511627776;omega) (by show 0≤(0:Int)∧(0:Int)<128;omega) (by show 0≤(1:Int)∧(1:Int)≤1099511627776;omega) (by show (1030:Int)≤((1200:Nat):Int) - 128∧(128:Int)≤((1200:Nat):Int);omega)
theorem Re {n:Nat} {bs:List UInt8} (hbs:bs.length=256) {M:Nat→Pg} (hM:M=D7 (fun _=>noPg) (some (gF n (bs.take 240) (manyN n),1+manyN n))):M 0=⟨1,bs.take 240⟩∧∀ i,i<manyN n→M (1+i)=CM (C1 (manyN n+1)) n i:=by
 subst hM
 refine ⟨rfl,fun i hi=> ?_⟩
 simp only[D7,gF]
 rw[if_neg (by omega),if_pos (by omega),show 1+i - 1=i by omega];rfl
def Gc (n:Nat):TB:=⟨fun _=>none,C1 (manyN n+1),[]⟩
theorem K5 (p:Nat):∀ n,refs (fun _=>none) p n=0
 | 0=>rfl
 | n+1=>by simp only[refs,K5 p n];rfl
theorem Wu (n:Nat) (M:Nat→Pg):Rel n M (Gc n).N (Gc n).C (Gc n).R:=
 ⟨fun p c h=>(by cases h),⟨fun p h1 h2=>(by show C1 (manyN n+1) p=_;unfold C1;rw[if_neg (by omega)];simp[Gc,K5]),fun p h=>(by cases h),fun q c h=>(by cases h),fun q d h=>(by cases h),fun q d h=>(by cases h)⟩⟩
theorem OG (c:Int) (N:Nat) (hc: -9223372036854775808≤c∧c≤9223372036854775807) (hN:0<N∧N≤1099511627776):Cn prog 11 [Iv_ c,Iv_ (N:Int)] [] (fun v Γ=>v=Iv_ (pkI c N:Int)∧Γ=[]):=by
 intro z R w H;replace H:=H.l0;refine Ad func11 rfl ntmps11 rfl (Z0 12 [0] rfl (Af rfl (fun h1=> ?_) (fun h1=> ?_)))
 ·refine Z1 3 [] [c+1] rfl (by omega) (Ab rfl (NE rfl rfl (r:= -(c+1)) (by omega) (by omega)) (Zc 7 rfl (Ab rfl (Jc rfl rfl rfl (by omega)) ?_)));have hm1:=Int.tmod_lt_of_pos (-(c+1)) (by omega:(0:Int)<(N:Int))
  have hm2:=Int.tmod_nonneg (N:Int) (show 0≤ -(c+1) by omega)
  refine Zc 4 rfl (Zr rfl ?_);have hv:(-(c+1)).tmod (N:Int)=(pkI c N:Int):=by unfold pkI;rw[if_pos (by omega)];omega
  exact ⟨_,⟨congrArg Iv_ hv,rfl⟩,H⟩
 ·refine Zc 6 rfl (Ab rfl (Jc rfl rfl rfl (by omega)) ?_);have hm1:=Int.tmod_lt_of_pos c (by omega:(0:Int)<(N:Int))
  have hm2:=Int.tmod_nonneg (N:Int) (show 0≤c by omega)
  refine Zc 4 rfl (Zr rfl ?_);have hv:c.tmod (N:Int)=(pkI c N:Int):=by unfold pkI;rw[if_neg (by omega)];omega
  exact ⟨_,⟨congrArg Iv_ hv,rfl⟩,H⟩
theorem Yo (fl:Int):Cn prog 40 [Iv_ fl] [] (fun v Γ=>∃ b,v= .agg #[Iv_ 5,.slice (some ⟨b,0,none⟩) 240 240]∧Γ=[blk b ((FY 5 fl).body.map u8) 5]):=by
 intro z R w H;replace H:=H.l0;refine Ad func40 rfl ntmps40 rfl (Za 2 [] H rfl ?_);intro b1 w H;refine Zc 4 rfl (AM rfl (E4 (k:=240) H rfl (by kernel_rfl) C2 rfl rfl rfl (by omega)) ?_);rintro _ w ⟨b2,rfl,H⟩;replace H:=H.l2;refine Zc 10 rfl ?_;refine AG (σ:=Nat) (fun i=>[(4,Iv_ (i:Int)),(0,Iv_ fl),(2,Pt_ b1),(3,.slice (some ⟨b2,0,none⟩) 240 240)])
   (fun i w=>Sep z (blk b2 ((List.replicate i (E3 fl)++List.replicate (240 - i) (0:UInt8)).map u8) 5::blk b1 [Iv_ 0,.slice none 0 0] 81::R) w∧(i≤240)) (fun i=>240 - i) 0
   (fun _ hF=>(hF.co rfl (by go_num) (hF.all rfl))) ⟨(by simpa [u8] using H),by omega⟩ ?_
 clear H;rintro i w ⟨H',hI⟩;have H:=H'.l2;have hi:=hI;clear hI
 refine Z0 9 [0] rfl (Af rfl (fun h1=> ?_) (fun h1=> ?_))
 ·refine Zc 8 rfl (Ab rfl (OO rfl (by kernel_rfl) rfl) (Z1 1 [1,i,i] [] rfl (by omega) (AB rfl rfl (Ai 0 H rfl rfl rfl rfl (vs:=[u8 (E3 fl)]) rfl (by simp[u8,u32,Value.oneCell']) (by kernel_rfl) (by simp;omega) (out:=((List.replicate (i+1) (E3 fl)++List.replicate (240 - (i+1)) (0:UInt8)).map u8)) (Rb i _ _ (by omega))) ?_)));rintro w H;replace H:=H.l2;refine Z1 8 [] [(i:Int)+1] rfl (by omega) (gf ?_);intro _ hF;refine ⟨(i+1),(hF.co rfl (by go_num) (hF.all rfl)),⟨H,?_⟩,?_⟩
  ·omega
  ·omega
 ·obtain rfl:i=240:=by omega
  refine Zc 2 rfl (gx (Z4 10 [1] H rfl ?_));intro w H;refine Zl [1,2] H rfl ?_;rw[show (List.replicate 240 (E3 fl)++List.replicate (240 - 240) (0:UInt8)).map u8=(FY 5 fl).body.map u8 from by simp[FY]] at H;exact ⟨_,⟨b2,rfl,rfl⟩,H.perm 2 [0] rfl rfl⟩
set_option maxHeartbeats 2000000 in
theorem Na (n:Nat) (hn:16≤n∧n≤1024) (Tb:Ae) (hT:GY Tb):Cn prog 10 [Iv_ (n:Int)] [Tb] (fun v Γ=>∃ pp:Nat,v=Pt_ pp∧Γ=[trA Tb pp 6 n (Gc n) none]):=by
 intro z R w H;replace H:=H.l1;refine Ad func10 rfl ntmps10 rfl (Zc 7 rfl (Ax rfl (call34 _) (Xz 1200) H ?_));rintro _ w _ (⟨hn_,rfl,rfl⟩|⟨_,pd,rfl,rfl⟩) H'
 ·exact absurd (by omega) hn_
 ·have H:=H'.l2;refine Z0 19 [4] rfl (Ax rfl (call35 _) (QZ _ 1200 n _ _ hn (Yn (by omega))) H ?_);rintro _ w _ ⟨D2,G2,bs,hbs,hO,hcl,hge,hdn,hpg,hM,rfl,rfl⟩ H;refine Z0 10 [4] rfl (Ax rfl (call36 _) (QV _ _ _ _ _ _ hO hcl hge (by omega)) H ?_);rintro _ w _ ⟨ps,D3,got,hgd3,fi3,hn3,rfl,rfl⟩ H;replace H:=H.l2;have hM2:pgMap (ov got) G2.B=G2.M:=by rw[hgd3];rfl
  obtain ⟨hc0,hcp⟩:=Re (n:=n) hbs (hM2.trans hM);refine Z0 24 [4] rfl (Ax rfl (call37 _) (V1 _ _ _ _ 6 n (C1 (manyN n+1)) fi3 hn hpg (bs.take 240) hc0 hcp (fun k=>Pq _ k) (fun p hp=>by unfold C1;rw[if_pos (by omega)])) H ?_);rintro _ w _ ⟨pp,pc,bn,m,pa,rfl,rfl⟩ H;refine Z0 24 [4] rfl (Zr rfl ?_);have H8:=(H.pick 7 [1,0,2,3,4,5,6] rfl).toPo (X:=⟨ps,pd,pc,bn,m,pa,D3,(Of G2.x (pgMap (ov got) G2.B)),CV,[],0,Bw,Tb⟩) (mb:=6) (n:=n) (M0:=pgMap (ov got) G2.B) (C0:=C1 (manyN n+1)) (t:=none) ⟨hn,fi3,hpg,⟨hT,rfl⟩,fun p _=>rfl,hcp,fun k=>Pq _ k,fun p hp=>(by unfold C1;rw[if_pos (by omega)]),fun _=>⟨rfl,rfl⟩,fun _ e=>(by cases e)⟩ rfl
  exact ⟨_,⟨pp,rfl,rfl⟩,Sep.toTr0 (o:=Gc n) H8 (Wu n _)⟩
end
section
open Go.RowKit
def cutZ (z:Nat) (ao:Option Addr) (c p:Nat):Option Addr:=if c=p then ao else ao.map (·.add (p * z))
theorem rdH.cutZ {z:Nat} {ao:Option Addr} {n c p m:Nat} {xs:List Value} {h:Hp} (r:rdH z (.slice ao n c) n xs h) (hz:0<z) (h1:p+m≤n) (h2:n≤c):rdH z (.slice (YtglgbkpniipjbaaGreatDoor.cutZ z ao c p) m (c - p)) m ((xs.drop (p * z)).take (m * z)) h:=by
 obtain ⟨ao',c',e,q1,q2,q3,q4⟩:=r
 cases e
 have hmz:p * z+m * z≤n * z:=by rw[←Nat.add_mul];exact Nat.mul_le_mul_right _ h1
 refine ⟨_,_,rfl,by omega,by omega,by simp;omega,fun j u hj=> ?_⟩
 have hjm:j<m * z:=by
  have:=(List.getElem?_eq_some_iff.1 hj).1
  simp at this;omega
 obtain ⟨b,o,rfl,hc⟩:=q4 (p * z+j) u (by
  rw[List.getElem?_take,if_pos hjm,List.getElem?_drop] at hj
  exact hj)
 have hm0:0<m:=Nat.pos_of_ne_zero fun e=>by subst e;omega
 refine ⟨b,o+p * z,?_,by rw[Nat.add_assoc];exact hc⟩
 unfold YtglgbkpniipjbaaGreatDoor.cutZ
 rw[if_neg (by omega)]
 simp only[Option.map_some]
 unfold Addr.add;split
 ·rename_i h0;simp[h0]
 ·rfl
theorem rdH.slcapZ {z:Nat} {ao:Option Addr} {n c:Nat} {xs:List Value} {h:Hp} (r:rdH z (.slice ao n c) n xs h):n≤c∧c≤9223372036854775807∧xs.length=n * z:=by
 obtain ⟨ao',c',e,q1,q2,q3,q4⟩:=r
 cases e;exact ⟨q1,q2,q3⟩
section
variable {P:Program} {C:World→Prop} {o:Oper} {n:Nat} {ds:List Deferred} {L:List (Nat×Value)} {x y:Operand}
theorem Hg {z:Nat} {t:TypeId} {lo hi:Option Operand} {ao:Option Addr} {l c p q l' c':Nat} (ho:o.op= .slice t x lo hi none) (ht:CA P t=some z)
  (hx:ev L x=some (.slice ao l c)) (hlo:(lo=none∧p=0)∨∃ y k i,lo=some y∧ev L y=some (.int k i)∧i=(p:Int)) (hhi:(hi=none∧q=l)∨∃ y k i,hi=some y∧ev L y=some (.int k i)∧i=(q:Int)) (hpq:p≤q) (hqc:q≤c)
  (h2:q - p=l') (h3:c - p=c'):Am P C n ds L o (.slice (cutZ z ao c p) l' c'):=by
 subst h2 h3
 exact HS ho ht hx hlo hhi hpq hqc
end
def Bj (L:List E):List Value:=L.flatMap fun e=>[.int .i64 e.1,.int .i64 (e.2:Int)]
theorem Iu (A B:List E):Bj (A++B)=Bj A++Bj B:=by simp[Bj]
theorem Cw:∀ {L:List E} {j:Nat} {e:E},L[j]? =some e→(Bj L)[j * 2]? =some (Iv_ e.1)∧(Bj L)[j * 2+1]? =some (Iv_ (e.2:Int))
 | x::L,0,e,h=>by simp at h;subst h;exact ⟨rfl,rfl⟩
 | x::L,j+1,e,h=>by
  have:=Cw (L:=L) (j:=j) (by simpa using h)
  have e1:Bj (x::L)=Iv_ x.1::Iv_ (x.2:Int)::Bj L:=rfl
  rw[e1,show (j+1) * 2=j * 2+1+1 by omega]
  simp only[List.getElem?_cons_succ]
  exact this
theorem Nb:∀ (L:List E) (p:Nat),(Bj L).drop (p * 2)=Bj (L.drop p)
 | L,0=>by simp
 | [],p+1=>by simp[Bj]
 | x::L,p+1=>by
  have e1:Bj (x::L)=Iv_ x.1::Iv_ (x.2:Int)::Bj L:=rfl
  rw[e1,show (p+1) * 2=p * 2+1+1 by omega,List.drop_succ_cons,List.drop_succ_cons,List.drop_succ_cons];exact Nb L p
theorem Nc:∀ (L:List E) (p:Nat),(Bj L).take (p * 2)=Bj (L.take p)
 | L,0=>by simp[Bj]
 | [],p+1=>by simp[Bj]
 | x::L,p+1=>by
  have e1:Bj (x::L)=Iv_ x.1::Iv_ (x.2:Int)::Bj L:=rfl
  rw[e1,show (p+1) * 2=p * 2+1+1 by omega,List.take_succ_cons,List.take_succ_cons,List.take_succ_cons,Nc L p];rfl
theorem GH (L:List E):∀ c∈Bj L,c.oneCell'=true:=fun c hc=>by
 simp only[Bj,List.mem_flatMap] at hc
 obtain ⟨e,_,he⟩:=hc
 simp at he;rcases he with rfl|rfl<;>rfl
theorem rdH.cutE {ao:Option Addr} {n c p m:Nat} {L:List E} {h:Hp} (r:rdH 2 (.slice ao n c) n (Bj L) h) (h1:p+m≤n) (h2:n≤c):rdH 2 (.slice (YtglgbkpniipjbaaGreatDoor.cutZ 2 ao c p) m (c - p)) m (Bj ((L.drop p).take m)) h:=by
 have:=r.cutZ (by omega) h1 h2
 rw[Nb,Nc] at this;exact this
def mpA (pm:Nat) (L:List E):Ae:=fun h=>∃ v,True∧seps [blk pm [v] 30,grow 87 2 v L.length (Bj L)] h
theorem Sep.mp {z w:World} {Γ:List Ae} {pm:Nat} {L:List E} (H:Sep z (mpA pm L::Γ) w):∃ v,Sep z (YtglgbkpniipjbaaGreatDoor.blk pm [v] 30::YtglgbkpniipjbaaGreatDoor.grow 87 2 v L.length (Bj L)::Γ) w:=by
 obtain ⟨v,_,H⟩:=H.into (p:=fun _=>True) (As:=fun v=>[YtglgbkpniipjbaaGreatDoor.blk pm [v] 30,YtglgbkpniipjbaaGreatDoor.grow 87 2 v L.length (Bj L)]) (fun _ q=>q)
 exact ⟨v,H⟩
theorem Sep.toMp {z w:World} {Γ:List Ae} {pm:Nat} {v:Value} {L:List E} (H:Sep z (YtglgbkpniipjbaaGreatDoor.blk pm [v] 30::YtglgbkpniipjbaaGreatDoor.grow 87 2 v L.length (Bj L)::Γ) w):Sep z (mpA pm L::Γ) w:=H.made 2 (fun h q=>⟨v,trivial,q⟩)
def getE (k:Int):List E→Nat
 | []=>0
 | e::t=>if e.1=k then e.2 else getE k t
theorem K6 {L:List E} {i:Nat} {e:E} {k:Int} (h:L[i]? =some e):getE k (L.drop i)=if e.1=k then e.2 else getE k (L.drop (i+1)):=by
 obtain ⟨hi,rfl⟩:=List.getElem?_eq_some_iff.1 h
 rw[List.drop_eq_getElem_cons hi];rfl
theorem K7 {L:List E} {i:Nat} {e:E} (k:Int) (h:L[i]? =some e):AV k (L.take (i+1))=if e.1=k then AV k (L.take i) else AV k (L.take i)++[e]:=by
 have h1:L.take (i+1)=L.take i++[e]:=by rw[List.take_add_one,h];rfl
 rw[h1,Hb]
 split
 ·rename_i h2;simp[AV,h2]
 ·rename_i h2;simp[AV,h2]
theorem TE {L:List E} (hs:Srt L) (key:Int) (val:Nat):putE key val (AV key L)=putE key val L:=by
 rcases key_split hs key with ⟨X,v,Y,rfl,h1⟩|⟨h0,X,Y,rfl,h1,h2⟩
 ·rw[Ot hs,DB _ h1]
  have h3:∀ e∈Y,key<e.1:=fun e he=>(Srt.cons.1 (Srt.app.1 hs).2.1).1 e he
  exact putE_new h1 h3
 ·rw[Fx (fun e he=>by
   rcases List.mem_append.1 he with q|q
   ·have:=h1 e q;omega
   ·have:=h2 e q;omega)]
theorem Rg {L:List E} (hs:Srt L) (key:Int) (val:Nat) {i:Nat} (h1:∀ (j:Nat) (e:E),j<i→(AV key L)[j]? =some e→e.1<key) (h2:∀ e,(AV key L)[i]? =some e→key≤e.1):
  putE key val L=(AV key L).take i++(key,val)::(AV key L).drop i:=by
 have hs':Srt (AV key L):=List.Pairwise.sublist List.filter_sublist hs
 have hk:∀ e∈AV key L,e.1≠key:=fun e he=>by simpa [AV] using (List.mem_filter.1 he).2
 rw[←TE hs]
 refine (congrArg (putE key val) (List.take_append_drop i _).symm).trans (putE_new (fun e he=> ?_) (fun e he=> ?_))
 ·obtain ⟨j,hj⟩:=List.getElem?_of_mem he
  rw[List.getElem?_take] at hj
  split at hj
  ·exact h1 j e (by assumption) hj
  ·cases hj
 ·have h3:=hk e (List.mem_of_mem_drop he)
  have h4:Srt ((AV key L).drop i):=List.Pairwise.sublist (List.drop_sublist _ _) hs'
  cases hd:(AV key L).drop i with
  | nil=>rw[hd] at he;cases he
  | cons x t=>
   rw[hd] at he h4
   have h5:key≤x.1:=h2 x (by
    have:((AV key L).drop i)[0]? =some x:=by rw[hd];rfl
    rwa[List.getElem?_drop,Nat.add_zero] at this)
   rcases List.mem_cons.1 he with rfl|q
   ·omega
   ·have:=(Srt.cons.1 h4).1 e q;omega
theorem Nf (pm:Nat) (key:Int) (L:List E):Cn prog 15 [Pt_ pm,Iv_ key] [mpA pm L] (fun v Γ=>v=Iv_ (getE key L:Int)∧Γ=[mpA pm L]):=by
 intro z R w H;replace H:=H.l1;refine Ad func15 rfl ntmps15 rfl (Zc 1 rfl ?_);obtain ⟨v_,H⟩:=(H.pick 1 [0] rfl).mp;replace H:=H.l2;obtain ⟨ao,oc,rfl⟩:=H.says 1 rfl (fun h q=>q.rd.slc);have hcp_ao:=H.says 1 rfl (fun h q=>q.rd.slcapZ)
 have H:Sep z (blk pm [.slice ao L.length oc] 30::grow 87 2 (.slice ao L.length oc) L.length (Bj L)::R) w:=H
 refine Zc 11 rfl ?_;refine AG (σ:=Nat) (fun i=>[(5,Iv_ (i:Int)),(0,Pt_ pm),(1,Iv_ key)])
   (fun i w=>Sep z (blk pm [.slice ao L.length oc] 30::grow 87 2 (.slice ao L.length oc) L.length (Bj L)::R) w∧(i≤L.length∧getE key L=getE key (L.drop i))) (fun i=>L.length - i) 0
   (fun _ hF=>(hF.co rfl (by go_num) (hF.all rfl))) ⟨H,⟨by omega,rfl⟩⟩ ?_
 clear H;rintro i w ⟨H',hI⟩;have H:=H'.l2;obtain ⟨hi,hg⟩:=hI;refine Z2 12 [0,0,0,0] H rfl (Af rfl (fun h1=> ?_) (fun h1=> ?_))
 ·refine Zc 5 rfl ?_;obtain ⟨e,he⟩:∃ e,L[i]? =some e:=⟨_,List.getElem?_eq_getElem (by omega)⟩;have hat0:=(H.rd 1 rfl (fun h q=>q.rd)).at (Cw he).1
  have hat1:=(H.rd 1 rfl (fun h q=>q.rd)).at (Cw he).2
  refine Z2 6 [0,0,0] H rfl (Ab rfl (Aj rfl (z:=2) (j:=i) (r:=i * 2) (by kernel_rfl) rfl rfl rfl (by omega) hat0 (by omega)) (Ab rfl (GN rfl (k:=0) (r:=i * 2) (by kernel_rfl) rfl hat0 rfl) (Ab rfl (Av rfl rfl (by kernel_rfl) (Aq hat0)) (Z0 4 [0] rfl (Af rfl (fun h2=> ?_) (fun h2=> ?_))))))
  ·refine Z2 7 [0,0,0] H rfl (Ab rfl (Aj rfl (z:=2) (j:=i) (r:=i * 2) (by kernel_rfl) rfl rfl rfl (by omega) hat0 (by omega)) (Ab rfl (GN rfl (k:=1) (r:=i * 2+1) (by kernel_rfl) rfl hat0 rfl) (Ab rfl (Av rfl rfl (by kernel_rfl) (Aq hat1)) (Zc 4 rfl (Zr rfl ?_)))));have hv:getE key L=e.2:=by rw[hg,K6 he,if_pos (by assumption)]
   exact ⟨_,⟨by rw[hv],rfl⟩,(H.pick 2 [0,1] rfl).toMp⟩
  ·refine Z1 8 [] [(i:Int)+1] rfl (by omega) (gf ?_);intro _ hF;refine ⟨(i+1),(hF.co rfl (by go_num) (hF.all rfl)),⟨H,?_⟩,?_⟩
   ·exact ⟨by omega,by rw[hg,K6 he,if_neg (by assumption)]⟩
   ·omega
 ·refine Zc 2 rfl (gx (Zc 8 rfl (Zr rfl ?_)));have hv:getE key L=0:=by rw[hg,List.drop_of_length_le (by omega)];rfl
  exact ⟨_,⟨by rw[hv];rfl,rfl⟩,(H.pick 2 [0,1] rfl).toMp⟩
theorem Ku (pm:Nat) (key:Int) (L:List E) (hL:L.length≤1048576):Cn prog 38 [Pt_ pm,Iv_ key] [mpA pm L] (fun v Γ=>∃ b:Bool,v= .bool b∧Γ=[mpA pm (AV key L)]):=by
 intro z R w H;replace H:=H.l1;refine Ad func38 rfl ntmps38 rfl (Zc 1 rfl ?_);obtain ⟨v_,H⟩:=(H.pick 1 [0] rfl).mp;replace H:=H.l2;obtain ⟨ao,oc,rfl⟩:=H.says 1 rfl (fun h q=>q.rd.slc);have hcp_ao:=H.says 1 rfl (fun h q=>q.rd.slcapZ)
 have H:Sep z (blk pm [.slice ao L.length oc] 30::grow 87 2 (.slice ao L.length oc) L.length (Bj L)::R) w:=H
 refine Zc 11 rfl ?_;replace H:=(H.nilg 87 2).l3
 refine Zc 5 rfl ?_;refine AG (σ:=Nat×Value) (fun ⟨i,u⟩=>[(6,Iv_ (i:Int)),(5,u),(0,Pt_ pm),(1,Iv_ key),(4,.bool false)])
   (fun ⟨i,u⟩ w=>Sep z (grow 87 2 u ((AV key (L.take i)).length) (Bj (AV key (L.take i)))::blk pm [.slice ao L.length oc] 30::grow 87 2 (.slice ao L.length oc) L.length (Bj L)::R) w∧(i≤L.length)) (fun ⟨i,u⟩=>L.length - i) ⟨0,.slice none 0 0⟩
   (fun _ hF=>(hF.co rfl (by go_num) (hF.co rfl (by go_num) (hF.all rfl)))) ⟨H,by omega⟩ ?_
 clear H;rintro ⟨i,u⟩ w ⟨H',hI⟩;dsimp only at hI H' ⊢
 have H:=H'.l3;have su:=H.says 0 rfl (fun h q=>q.slc)
 have hi:=hI;clear hI
 refine Z2 12 [0,1,0,0] H rfl (Af rfl (fun h1=> ?_) (fun h1=> ?_))
 ·refine Zc 5 rfl ?_;obtain ⟨e,he⟩:∃ e,L[i]? =some e:=⟨_,List.getElem?_eq_getElem (by omega)⟩;have hat0:=(H.rd 2 rfl (fun h q=>q.rd)).at (Cw he).1
  have hat1:=(H.rd 2 rfl (fun h q=>q.rd)).at (Cw he).2
  have hdl:(AV key (L.take i)).length≤i:=Nat.le_trans (List.length_filter_le _ _) (by rw[List.length_take];omega)
  refine Z2 6 [0,1,0] H rfl (Ab rfl (Aj rfl (z:=2) (j:=i) (r:=i * 2) (by kernel_rfl) rfl rfl rfl (by omega) hat0 (by omega)) (Ab rfl (GN rfl (k:=0) (r:=i * 2) (by kernel_rfl) rfl hat0 rfl) (Ab rfl (Av rfl rfl (by kernel_rfl) (Aq hat0)) (Z0 4 [0] rfl (Af rfl (fun h2=> ?_) (fun h2=> ?_))))))
  ·refine Z2 7 [0,1,0] H rfl (Ab rfl (Aj rfl (z:=2) (j:=i) (r:=i * 2) (by kernel_rfl) rfl rfl rfl (by omega) hat0 (by omega)) (Ab rfl (Ch rfl rfl (vs:=[Iv_ e.1,Iv_ (e.2:Int)]) (by kernel_rfl) (by simp) (Aq (fun k u hk=>by rcases k with _|_|k<;>simp at hk<;>subst hk<;>assumption))) (AM rfl (AJ H rfl (by kernel_rfl) A4 rfl (by decide) (by decide) (out:=[Iv_ e.1,Iv_ (e.2:Int)]) (by kernel_rfl)) ?_)));rintro _ w ⟨b1,rfl,H⟩;replace H:=H.l4;refine AM rfl (A0 1 H rfl rfl (by kernel_rfl) A4 rfl rfl (H.rd 0 rfl (fun h q=>q.rd (by omega) (by omega) (by simp) rfl)) (by simp[Value.oneCell']) (by omega)) ?_;rintro v2 w H';have H':Sep z (blk b1 [Iv_ e.1,Iv_ (e.2:Int)] 87::grow 87 2 v2 ((AV key (L.take i)).length+1) (Bj (AV key (L.take i))++[Iv_ e.1,Iv_ (e.2:Int)])::blk pm [.slice ao L.length oc] 30::grow 87 2 (.slice ao L.length oc) L.length (Bj L)::R) w:=H'
   have ev2:(Bj (AV key (L.take i))++[Iv_ e.1,Iv_ (e.2:Int)]:List Value)=Bj (AV key (L.take i)++[e]):=by rw[Iu];rfl
   rw[ev2] at H';have H:=H'.l4;have sv2:=H.says 1 rfl (fun h q=>q.slc)
   refine Z1 9 [] [(i:Int)+1] rfl (by omega) ?_;replace H:=H.d;refine gf ?_;intro _ hF;refine ⟨⟨i+1,v2⟩,(hF.co rfl (by go_num) (hF.all rfl)),⟨(by rw[K7 key he,if_neg (by omega),List.length_append];exact H),?_⟩,?_⟩
   ·omega
   ·(dsimp only;omega)
  ·refine Z1 8 [] [(i:Int)+1] rfl (by omega) (gf ?_);intro _ hF;refine ⟨⟨i+1,u⟩,(hF.co rfl (by go_num) (hF.all rfl)),⟨(by rw[K7 key he,if_pos (by omega)];exact H),?_⟩,?_⟩
   ·omega
   ·(dsimp only;omega)
 ·refine Zc 2 rfl (gx (Zc 5 rfl (Ab rfl (DU rfl (sz:=2) (by kernel_rfl) rfl su) (Z2 15 [0,1,0,0,0] H rfl (AB rfl rfl (JQ 1 H rfl rfl rfl rfl su.cells su.one (by kernel_rfl)) ?_)))));rintro w H;replace H:=H.l3;refine Zc 9 rfl (Zr rfl ?_);rw[show i=L.length by omega,List.take_length] at H;exact ⟨_,⟨_,rfl,rfl⟩,(H.pick 3 [1,0] rfl).toMp⟩
theorem Yp (pm:Nat) (key:Int) (val:Nat) (L:List E) (hL:L.length≤1048576) (hs:Srt L):Cn prog 41 [Pt_ pm,Iv_ key,Iv_ (val:Int)] [mpA pm L] (fun v Γ=>v= .tuple #[]∧Γ=[mpA pm (putE key val L)]):=by
 intro z R w H;replace H:=H.l1;have hdl:(AV key L).length≤L.length:=List.length_filter_le _ _
 refine Ad func41 rfl ntmps41 rfl (Zc 4 rfl (Ax rfl (call38 _) (Ku _ _ _ hL) H ?_));rintro _ w _ ⟨bb,rfl,rfl⟩ H;refine Zc 3 rfl ?_;obtain ⟨v_,H⟩:=(H.pick 1 [0] rfl).mp;replace H:=H.l2;obtain ⟨ao,oc,rfl⟩:=H.says 1 rfl (fun h q=>q.rd.slc);have hcp_ao:=H.says 1 rfl (fun h q=>q.rd.slcapZ)
 have H:Sep z (blk pm [.slice ao ((AV key L).length) oc] 30::grow 87 2 (.slice ao ((AV key L).length) oc) ((AV key L).length) (Bj (AV key L))::R) w:=H
 refine Zc 6 rfl ?_;refine AG (σ:=Nat) (fun i=>[(6,Iv_ (i:Int)),(0,Pt_ pm),(1,Iv_ key),(2,Iv_ (val:Int))])
   (fun i w=>Sep z (blk pm [.slice ao ((AV key L).length) oc] 30::grow 87 2 (.slice ao ((AV key L).length) oc) ((AV key L).length) (Bj (AV key L))::R) w∧(i≤(AV key L).length∧∀ (j:Nat) (e:E),j<i→(AV key L)[j]? =some e→e.1<key)) (fun i=>(AV key L).length - i) 0
   (fun _ hF=>(hF.co rfl (by go_num) (hF.all rfl))) ⟨H,⟨Nat.zero_le _,fun j e h=>by omega⟩⟩ ?_
 clear H;rintro i w ⟨H',hI⟩;have H:=H'.l2;obtain ⟨hi,hall⟩:=hI;refine Z2 11 [0,0,0,0] H rfl (Al 18 rfl (fun h1=> ?_) (fun h1=> ?_))
 ·have hlt9:=h1
  obtain ⟨e,he⟩:∃ e,(AV key L)[i]? =some e:=⟨_,List.getElem?_eq_getElem (by omega)⟩;have hat0:=(H.rd 1 rfl (fun h q=>q.rd)).at (Cw he).1
  refine Z2 5 [0,0,0] H rfl (Ab rfl (Aj rfl (z:=2) (j:=i) (r:=i * 2) (by kernel_rfl) rfl rfl rfl (by omega) hat0 (by omega)) (Ab rfl (GN rfl (k:=0) (r:=i * 2) (by kernel_rfl) rfl hat0 rfl) (Ab rfl (Av rfl rfl (by kernel_rfl) (Aq hat0)) (Z0 5 [0] rfl (Af rfl (fun h2=> ?_) (fun h2=> ?_))))))
  ·refine Z1 9 [] [(i:Int)+1] rfl (by omega) (gf ?_);intro _ hF;refine ⟨(i+1),(hF.co rfl (by go_num) (hF.all rfl)),⟨H,?_⟩,?_⟩
   ·refine ⟨by omega,fun j e9 hj he9=> ?_⟩;rcases Nat.lt_or_ge j i with q|q
    ·exact hall j e9 q he9
    ·obtain rfl:j=i:=by omega
     rw[he] at he9;cases he9;omega
   ·omega
  ·refine Zc 2 rfl (gx (Z2 15 [0,0,0] H rfl (Ab rfl (Hg (z:=2) (p:=0) (q:=i) (l':=i) (c':=oc) rfl (by kernel_rfl) rfl (.inl ⟨rfl,rfl⟩) (.inr ⟨_,_,_,rfl,rfl,rfl⟩) (by omega) (by omega) rfl rfl) ?_)));replace H:=(H.nilg 87 2).l3
   refine AM rfl (A0 0 H rfl rfl (by kernel_rfl) A4 rfl rfl (H.rd 2 rfl (fun h q=>q.rd.cutE (by omega) (by omega))) (GH _) (by omega)) ?_;rintro v1 w H;replace H:=H.l3;have sv1:=H.says 0 rfl (fun h q=>q.slc)
   refine Zc 9 rfl (AM rfl (AJ H rfl (by kernel_rfl) A4 rfl (by decide) (by decide) (out:=[Iv_ key,Iv_ (val:Int)]) (by kernel_rfl)) ?_);rintro _ w ⟨b2,rfl,H⟩;replace H:=H.l4;refine AM rfl (A0 1 H rfl rfl (by kernel_rfl) A4 rfl rfl (H.rd 0 rfl (fun h q=>q.rd (by omega) (by omega) (by simp) rfl)) (by simp[Value.oneCell']) (by omega)) ?_;rintro v3 w H;replace H:=H.l4;have sv3:=H.says 1 rfl (fun h q=>q.slc)
   refine Z2 11 [0,2,0] H rfl (Ab rfl (Hg (z:=2) (p:=i) (q:=(AV key L).length) (l':=((AV key L).length) - i) (c':=oc - i) rfl (by kernel_rfl) rfl (.inr ⟨_,_,_,rfl,rfl,rfl⟩) (.inl ⟨rfl,rfl⟩) (by omega) (by omega) rfl rfl) (AM rfl (A0 1 H rfl rfl (by kernel_rfl) A4 rfl rfl (H.rd 3 rfl (fun h q=>q.rd.cutE (by omega) (by omega))) (GH _) (by omega)) ?_));rintro v4 w H;replace H:=H.l4;have sv4:=H.says 1 rfl (fun h q=>q.slc)
   refine Z0 8 [0] rfl (AB rfl rfl (JQ 2 H rfl rfl rfl rfl sv4.cells sv4.one (by kernel_rfl)) ?_);rintro w H;replace H:=H.l4;refine Zc 1 rfl (Zf rfl ?_);have ep:=Rg hs key val hall (fun e9 he9=>by first|(have:=(List.getElem?_eq_some_iff.1 he9).1;omega)|(rw[he] at he9;cases he9;omega))
   rw[show (0+i+1+((AV key L).length - i):Nat)=(putE key val L).length from by rw[ep];simp only[List.length_append,List.length_take,List.length_cons,List.length_drop];omega,show ([]++Bj (((AV key L).drop 0).take i)++List.take (1 * 2) (List.drop 0 [Iv_ key,Iv_ (val:Int)])++Bj (((AV key L).drop i).take ((AV key L).length - i)):List Value)=Bj (putE key val L) from by rw[ep,Iu,List.drop_zero,List.take_of_length_le (l:=(AV key L).drop i) (by rw[List.length_drop];omega)];simp[Bj]] at H;exact ⟨_,⟨rfl,rfl⟩,(H.pick 4 [2,1] rfl).toMp⟩
 ·refine Zc 16 rfl (gx (Z2 15 [0,0,0] H rfl (Ab rfl (Hg (z:=2) (p:=0) (q:=i) (l':=i) (c':=oc) rfl (by kernel_rfl) rfl (.inl ⟨rfl,rfl⟩) (.inr ⟨_,_,_,rfl,rfl,rfl⟩) (by omega) (by omega) rfl rfl) ?_)));replace H:=(H.nilg 87 2).l3
  refine AM rfl (A0 0 H rfl rfl (by kernel_rfl) A4 rfl rfl (H.rd 2 rfl (fun h q=>q.rd.cutE (by omega) (by omega))) (GH _) (by omega)) ?_;rintro v5 w H;replace H:=H.l3;have sv5:=H.says 0 rfl (fun h q=>q.slc)
  refine Zc 9 rfl (AM rfl (AJ H rfl (by kernel_rfl) A4 rfl (by decide) (by decide) (out:=[Iv_ key,Iv_ (val:Int)]) (by kernel_rfl)) ?_);rintro _ w ⟨b6,rfl,H⟩;replace H:=H.l4;refine AM rfl (A0 1 H rfl rfl (by kernel_rfl) A4 rfl rfl (H.rd 0 rfl (fun h q=>q.rd (by omega) (by omega) (by simp) rfl)) (by simp[Value.oneCell']) (by omega)) ?_;rintro v7 w H;replace H:=H.l4;have sv7:=H.says 1 rfl (fun h q=>q.slc)
  refine Z2 11 [0,2,0] H rfl (Ab rfl (Hg (z:=2) (p:=i) (q:=(AV key L).length) (l':=((AV key L).length) - i) (c':=oc - i) rfl (by kernel_rfl) rfl (.inr ⟨_,_,_,rfl,rfl,rfl⟩) (.inl ⟨rfl,rfl⟩) (by omega) (by omega) rfl rfl) (AM rfl (A0 1 H rfl rfl (by kernel_rfl) A4 rfl rfl (H.rd 3 rfl (fun h q=>q.rd.cutE (by omega) (by omega))) (GH _) (by omega)) ?_));rintro v8 w H;replace H:=H.l4;have sv8:=H.says 1 rfl (fun h q=>q.slc)
  refine Z0 8 [0] rfl (AB rfl rfl (JQ 2 H rfl rfl rfl rfl sv8.cells sv8.one (by kernel_rfl)) ?_);rintro w H;replace H:=H.l4;refine Zc 1 rfl (Zf rfl ?_);have ep:=Rg hs key val hall (fun e9 he9=>by first|(have:=(List.getElem?_eq_some_iff.1 he9).1;omega)|(rw[he] at he9;cases he9;omega))
  rw[show (0+i+1+((AV key L).length - i):Nat)=(putE key val L).length from by rw[ep];simp only[List.length_append,List.length_take,List.length_cons,List.length_drop];omega,show ([]++Bj (((AV key L).drop 0).take i)++List.take (1 * 2) (List.drop 0 [Iv_ key,Iv_ (val:Int)])++Bj (((AV key L).drop i).take ((AV key L).length - i)):List Value)=Bj (putE key val L) from by rw[ep,Iu,List.drop_zero,List.take_of_length_le (l:=(AV key L).drop i) (by rw[List.length_drop];omega)];simp[Bj]] at H;exact ⟨_,⟨rfl,rfl⟩,(H.pick 4 [2,1] rfl).toMp⟩
theorem TF (pm:Nat) (L:List E) (hL:L.length≤1048576):Cn prog 26 [Pt_ pm] [mpA pm L] (fun v Γ=>∃ pq:Nat,v=Pt_ pq∧Γ=[mpA pq L,mpA pm L]):=by
 intro z R w H;replace H:=H.l1;refine Ad func26 rfl ntmps26 rfl (Zc 1 rfl ?_);obtain ⟨v_,H⟩:=(H.pick 1 [0] rfl).mp;replace H:=H.l2;obtain ⟨ao,oc,rfl⟩:=H.says 1 rfl (fun h q=>q.rd.slc);have hcp_ao:=H.says 1 rfl (fun h q=>q.rd.slcapZ)
 have H:Sep z (blk pm [.slice ao L.length oc] 30::grow 87 2 (.slice ao L.length oc) L.length (Bj L)::R) w:=H
 refine Z2 16 [0,0,0] H rfl ?_;replace H:=(H.nilg 87 2).l3
 refine AM rfl (A0 0 H rfl rfl (by kernel_rfl) A4 rfl rfl (H.rd 2 rfl (fun h q=>q.rd)) (GH _) (by omega)) ?_;rintro v1 w H;replace H:=H.l3;have sv1:=H.says 0 rfl (fun h q=>q.slc)
 refine Zc 4 rfl ?_;rw[show 0+L.length=L.length from Nat.zero_add _] at H sv1;obtain ⟨ao2,cc3,rfl⟩:=sv1;refine Za 3 [] H rfl ?_;intro b4 w H;refine Zc 4 rfl (Zr rfl ?_);have H8:=(H.pick 4 [0,1,2,3] rfl).toMp
 exact ⟨_,⟨b4,rfl,rfl⟩,((H8.pick 3 [1,2,0] rfl).toMp.pick 2 [1,0] rfl)⟩
end
section
open Go.RowKit
variable {Tb:Ae}
variable {z w:World} {Γ:List Ae} {pp mb n:Nat} {o:TB} {t t':TS} {R:List Nat} {T:TT}
theorem Wv (pp mb n:Nat) (o:TB) (t:TS) (R:List Nat) (fl:Int) (b:Nat) (hk:t.k<40):
  Cn prog 39 [Pt_ pp,.agg #[Iv_ 5,.slice (some ⟨b,0,none⟩) 240 240]] [trA Tb pp mb n o (some (t,R)),blk b ((FY 5 fl).body.map u8) 5] (fun v Γ=>(cnt t.F 0 1024=0∧v= .tuple #[Iv_ 0,Iv_ 20]∧Γ=[trA Tb pp mb n o (some (t,R)),blk b ((FY 5 fl).body.map u8) 5])∨
   ∃ (a:Nat) (t2:TS),(t.N a=none∧t2.N a=some (.dt (FY 5 fl).body)∧(∀ q d,t2.N q=some (.nd d)→a∉vals d.es)∧(∀ h c lo hi m L,Tr t.N h c lo hi m L→Tr t2.N h c lo hi m L)∧t2.k≤t.k+1∧cnt t.F 0 1024=cnt t2.F 0 1024+1)∧v= .tuple #[Iv_ (a:Int),Iv_ 0]∧Γ=[trA Tb pp mb n o (some (t2,a::R)),blk b ((FY 5 fl).body.map u8) 5]):=by
 intro z R' w H
 have K:=H.says 0 rfl (fun h a=>trA.k a)
 have I:TInv n (manyN n+1) t.N t.C R:=K.i
 refine Ret.mono (Cn.at (M3 pp mb n o t R R (FY 5 fl) (Ym fl (by omega)) _ _ (fun h q=>q.rd (by omega) (by omega) (by simp[OF]) (by simp only[Nat.mul_one,List.drop_zero];exact List.take_of_length_le (by rw[List.length_map,OF];omega))) hk (some (.dt (FY 5 fl).body)) (fun q hq=>by cases hq;rfl) (fun a h1 h2 h3=>(I.freshD h3 ⟨h1,h2⟩).2.1)) H 2 [0,1] rfl rfl) ?_
 rintro v w' ⟨Γ',(⟨h0,rfl,rfl⟩|⟨a,F,k,⟨h1,h2,h3,h4,h5,h6,h7⟩,rfl,rfl⟩),H'⟩
 ·exact ⟨_,.inl ⟨h0,rfl,rfl⟩,H'⟩
 ·obtain ⟨f1,f2,f3⟩:=I.freshD (b:=(FY 5 fl).body) h2 ⟨h1.1,h1.2⟩
  refine ⟨_,.inr ⟨a,⟨_,_,F,k⟩,⟨f1,Bg _ _ _,fun q d hq=> ?_,fun h c lo hi m L q=>q.fup f3 (fun e=> ?_),h6,h7⟩,rfl,rfl⟩,H'⟩
  ·have hq:fup t.N a (some (.dt (FY 5 fl).body)) q=some (.nd d):=hq
   by_cases e:q=a
   ·subst e;rw[Bg] at hq;cases hq
   ·rw[AU _ _ e] at hq;exact f3 q d hq
  ·subst e;obtain ⟨d,hd⟩:=q.node;rw[f1] at hd;cases hd
structure LwI (n:Nat) (o:TB) (a:Nat) (L:List E) (Q:List Nat):Prop where
 n:n≤511
 q:Q.length≤100
 root:Root o.N a L
 nd:(vals L).Nodup
 r:o.R=AW a++Q
theorem Root.low {N:Hm} {C:Nat→Nat} {f a:Nat} {L:List E} (I:TInv n f N C R) (h:Root N a L) (ha:a≠0) (hn:n≤511):∃ h,Tr N h a 0 1048576 (rootM h) L∧h≤4:=by
 rcases h with ⟨e,_⟩|⟨_,h,hT⟩
 ·exact absurd e ha
 ·exact ⟨h,hT,hT.low I (Nat.le_refl _) hn⟩
theorem Root.srt {N:Hm} {a:Nat} {L:List E} (h:Root N a L):Srt L∧Bx 0 1048576 L:=by
 rcases h with ⟨_,rfl⟩|⟨_,h,hT⟩
 ·exact ⟨by simp[Srt],by simp[Bx]⟩
 ·exact hT.srt
theorem Root.data {N:Hm} {a:Nat} {L:List E} (h:Root N a L):∀ e∈L,∃ b,N e.2=some (.dt b):=by
 rcases h with ⟨_,rfl⟩|⟨_,h,hT⟩
 ·simp
 ·exact hT.data
def Kp (N N':Hm) (Q:List Nat):Prop:=∀ c∈Q,∀ L,Root N c L→Root N' c L
theorem Kp.of {N N':Hm} {Q:List Nat} (h:∀ c∈Q,∀ h lo hi m L,Tr N h c lo hi m L→Tr N' h c lo hi m L):Kp N N' Q:=fun c hc L q=>by
 rcases q with q|⟨h0,h1,hT⟩
 ·exact .inl q
 ·exact .inr ⟨h0,h1,h c hc _ _ _ _ _ hT⟩
theorem Ng {F G:Nat→Bool} (h:∀ q,F q=true→G q=true) (a:Nat):∀ n,cnt F a n≤cnt G a n
 | 0=>Nat.le_refl _
 | n+1=>by
  have:=Ng h a n
  have h2:(F (a+n)).toNat≤(G (a+n)).toNat:=by
   cases e:F (a+n) with
   | false=>simp
   | true=>rw[h _ e];simp
  simp only[cnt];omega
theorem TrK.free {n:Nat} {o:TB} {t:TS} {R:List Nat} (K:TrK n o (some (t,R))):cnt t.F 0 1024≤cnt (frC n t.C) 0 1024:=
 Ng (fun q hq=>by
  obtain ⟨h1,h2,_⟩:=K.fr q hq
  simp only[frC];exact decide_eq_true ⟨h1,h2⟩) 0 1024
theorem Y5 (pp mb n:Nat) (o:TB) (t:TS) (Q:List Nat) (a:Nat) (key:Int) (val:Nat) (b:List UInt8) (L:List E) (hR:Root t.N a L) (hn:n≤511) (hkk:0≤key∧key<1048576) (hvd:t.N val=some (.dt b)) (hnv:∀ q d,t.N q=some (.nd d)→val∉vals d.es) (hk:t.k≤20) (hb:Q.length≤100):
  Cn prog 17 [Pt_ pp,Iv_ (a:Int),Iv_ key,Iv_ (val:Int)] [trA Tb pp mb n o (some (t,val::(AW a++Q)))] (fun v Γ=>(cnt t.F 0 1024≤10∧∃ s:TS×List Nat,v= .tuple #[Iv_ 0,Iv_ 20]∧Γ=[trA Tb pp mb n o (some s)])∨
   ∃ (t2:TS) (r:Nat),(St t t2 Q 11 16∧Root t2.N r (putE key val L)∧cnt t2.F 0 1024≤cnt (frC n t2.C) 0 1024)∧v= .tuple #[Iv_ (r:Int),Iv_ 0]∧Γ=[trA Tb pp mb n o (some (t2,AW r++Q))]):=by
 intro z R' w H
 have K:=H.says 0 rfl (fun h a=>trA.k a)
 by_cases ha:a=0
 ·subst ha
  have hL:L=[]:=by rcases hR with ⟨_,e⟩|⟨e,_⟩;exact e;exact absurd rfl e
  subst hL
  refine Ret.mono (Cn.at (Yc pp mb n o t Q key val b hkk hvd (by omega)) H 1 [0] rfl rfl) ?_
  rintro v w' ⟨Γ',(⟨h0,s,rfl,rfl⟩|⟨t2,r,⟨h1,h2⟩,rfl,rfl⟩),H'⟩
  ·exact ⟨_,.inl ⟨by omega,s,rfl,rfl⟩,H'⟩
  ·have K2:=H'.says 0 rfl (fun h a=>trA.k a)
   have hr:r≠0:=by have:=(K2.i.rin r (by simp[Cb])).1;omega
   exact ⟨_,.inr ⟨t2,r,⟨h1.sub (fun p hp=>hp) (by omega) (by omega),.inr ⟨hr,0,h2⟩,K2.free⟩,rfl,by rw[Cz hr];rfl⟩,H'⟩
 ·obtain ⟨h,hT,hh⟩:=hR.low K.i ha hn
  have H2:=H.mono 0 (B:=trA Tb pp mb n o (some (t,a::val::Q))) rfl (fun h q=>q.perm (by rw[Cz ha];exact List.Perm.swap _ _ _))
  have hk3:t.k+3 * h+3<40:=by omega
  refine Ret.mono (Cn.at (Yd pp mb n o t Q h a (rootM h) key val L ⟨hT,hkk,by omega,by omega,⟨b,hvd⟩,hnv,hk3,by omega⟩) H2 1 [0] rfl rfl) ?_
  rintro v w' ⟨Γ',(⟨h0,s,rfl,rfl⟩|⟨t2,r,⟨h1,h2⟩,rfl,rfl⟩),H'⟩
  ·exact ⟨_,.inl ⟨by omega,s,rfl,rfl⟩,H'⟩
  ·have K2:=H'.says 0 rfl (fun h a=>trA.k a)
   have hr:r≠0:=by have:=(K2.i.rin r (by simp[Cb])).1;omega
   refine ⟨_,.inr ⟨t2,r,⟨h1.sub (fun p hp=>hp) (by omega) (by omega),?_,K2.free⟩,rfl,by rw[Cz hr];rfl⟩,H'⟩
   rcases h2 with h2|h2
   ·exact root_of h2 (Nat.le_refl _) hr
   ·exact root_of h2 (by unfold rootM;rw[if_neg (by omega)];omega) hr
theorem Y6 (pp mb n:Nat) (o:TB) (t:TS) (Q:List Nat) (a:Nat) (key:Int) (L:List E) (hR:Root t.N a L) (hd:(vals L).Nodup) (hn:n≤511) (hk:t.k≤10) (hb:Q.length≤100):
  Cn prog 18 [Pt_ pp,Iv_ (a:Int),Iv_ key] [trA Tb pp mb n o (some (t,AW a++Q))] (fun v Γ=>(¬ Cy key L∧v= .tuple #[Iv_ (a:Int),.bool false,Iv_ 0]∧Γ=[trA Tb pp mb n o (some (t,AW a++Q))])∨(cnt t.F 0 1024≤12∧∃ s:TS×List Nat,v= .tuple #[Iv_ 0,.bool false,Iv_ 20]∧Γ=[trA Tb pp mb n o (some s)])∨
   ∃ (t2:TS) (r:Nat),(Cy key L∧St t t2 Q 14 27∧Root t2.N r (AV key L)∧cnt t2.F 0 1024≤cnt (frC n t2.C) 0 1024)∧v= .tuple #[Iv_ (r:Int),.bool true,Iv_ 0]∧Γ=[trA Tb pp mb n o (some (t2,AW r++Q))]):=by
 intro z R' w H
 have K:=H.says 0 rfl (fun h a=>trA.k a)
 by_cases ha:a=0
 ·subst ha
  have hL:L=[]:=by rcases hR with ⟨_,e⟩|⟨e,_⟩;exact e;exact absurd rfl e
  subst hL
  refine Ret.mono (Cn.at (Yk pp mb n o _ key) H 1 [0] rfl rfl) ?_
  rintro v w' ⟨Γ',⟨rfl,rfl⟩,H'⟩
  exact ⟨_,.inl ⟨fun ⟨v,hv⟩=>(by cases hv),rfl,rfl⟩,H'⟩
 ·obtain ⟨h,hT,hh⟩:=hR.low K.i ha hn
  have e:AW a++Q=a::Q:=by rw[Cz ha];rfl
  rw[e] at H
  rw[e]
  refine Ret.mono (Cn.at (Yj pp mb n o t Q h a key L hT hd (by omega) (by omega)) H 1 [0] rfl rfl) ?_
  rintro v w' ⟨Γ',(⟨h0,rfl,rfl⟩|⟨h0,s,rfl,rfl⟩|⟨t2,r,⟨h0,h1,h2⟩,rfl,rfl⟩),H'⟩
  ·exact ⟨_,.inl ⟨h0,rfl,rfl⟩,H'⟩
  ·exact ⟨_,.inr (.inl ⟨by omega,s,rfl,rfl⟩),H'⟩
  ·exact ⟨_,.inr (.inr ⟨t2,r,⟨h0,h1.sub (fun p hp=>hp) (by omega) (by omega),h2,(H'.says 0 rfl (fun h a=>trA.k a)).free⟩,rfl,rfl⟩),H'⟩
theorem Hh {L:List E} {key:Int} (h:∀ e∈L,1≤e.2):(getE key L≠0↔Cy key L)∧(∀ v,(key,v)∈L→Srt L→getE key L=v):=by
 induction L with
 | nil=>exact ⟨⟨fun q=>absurd rfl q,fun ⟨v,q⟩=>by cases q⟩,fun v q=>by cases q⟩
 | cons e t ih=>
  have ih:=ih (fun x hx=>h x (by simp[hx]))
  have he:=h e (by simp)
  simp only[getE]
  split
  ·rename_i hk
   refine ⟨⟨fun _=>⟨e.2,?_⟩,fun _=>by omega⟩,fun v hv hs=> ?_⟩
   ·rw[←hk];simp
   ·rcases List.mem_cons.1 hv with q|q
    ·rw[←q]
    ·have:=(Srt.cons.1 hs).1 _ q;dsimp only at this;omega
  ·rename_i hk
   refine ⟨ih.1.trans ⟨fun ⟨v,q⟩=>⟨v,by simp[q]⟩,fun ⟨v,q⟩=> ?_⟩,fun v hv hs=> ?_⟩
   ·rcases List.mem_cons.1 q with q|q
    ·subst q;exact absurd rfl hk
    ·exact ⟨v,q⟩
   ·rcases List.mem_cons.1 hv with q|q
    ·subst q;exact absurd rfl hk
    ·exact ih.2 v q (Srt.cons.1 hs).2
theorem Pw {L:List E} (hs:Srt L) {key:Int} {val:Nat} (hd:(vals L).Nodup) (hv:val∉vals L):(vals (putE key val L)).Nodup:=by
 rcases key_split hs key with ⟨X,v,Y,rfl,h1⟩|⟨h0,_⟩
 ·rw[DB _ h1]
  rw[Bm,BE] at hd hv ⊢
  simp only[List.mem_append,List.mem_cons,not_or] at hv
  rw[List.nodup_append,List.nodup_cons] at hd ⊢
  obtain ⟨a,⟨b,c⟩,d⟩:=hd
  refine ⟨a,⟨hv.2.2,c⟩,fun x hx y hy=> ?_⟩
  rcases List.mem_cons.1 hy with rfl|hy
  ·exact fun e=>hv.1 (by rw[←e];exact hx)
  ·exact d x hx y (by simp[hy])
 ·rw[(Gb hs val h0).1.nodup_iff,List.nodup_cons];exact ⟨hv,hd⟩
theorem FZ {n f:Nat} {N:Hm} {C:Nat→Nat} (I:TInv n f N C R) (hf:1≤f) {L:List E} (hd:∀ e∈L,∃ b,N e.2=some (.dt b)):∀ e∈L,1≤e.2∧e.2<n:=fun e he=>by
 obtain ⟨b,hb⟩:=hd e he
 have:=I.nin _ _ hb;omega
theorem GI {n f:Nat} {N:Hm} {C:Nat→Nat} (I:TInv n f N C R) (hf:1≤f) {L:List E} (hd:∀ e∈L,∃ b,N e.2=some (.dt b)) (hn:(vals L).Nodup):L.length≤n:=by
 have:=FW hn (fun p hp=>by
  obtain ⟨e,he,rfl⟩:=List.mem_map.1 hp
  exact (FZ I hf hd e he).2)
 simpa [vals] using this
theorem LwI.done {a r:Nat} {L L2:List E} {Q:List Nat} {o2:TB} (h:LwI n o a L Q) (hr:Root o2.N r L2) (hd:(vals L2).Nodup) (hR:o2.R=AW r++Q):LwI n o2 r L2 Q:=⟨h.n,h.q,hr,hd,hR⟩
end
section
open Go.RowKit
variable {Tb:Ae}
def CP (k:Int):Int:=if 1000≤k then k.tmod 1048576 else (pkI k 60:Int)
theorem Nh (k:Int):0≤CP k∧CP k<1048576:=by
 unfold CP
 split
 ·have h2:=Int.tmod_lt_of_pos k (by omega:(0:Int)<1048576)
  have h3:=Int.tmod_nonneg (1048576:Int) (show 0≤k by omega)
  omega
 ·have:=Yl k (N:=60) (by omega);omega
set_option maxHeartbeats 2000000 in
theorem Ww (pt pm pp mb n:Nat) (o:TB) (ra:Nat) (L:List E) (Q:List Nat) (k fl:Int) (hI:LwI n o ra L Q) (hmb:mb≤1000000000) (hk: -9223372036854775808≤k∧k≤9223372036854775807):Cn prog 12 [Pt_ pt,.agg #[Iv_ k,.bool true,Iv_ fl]] [blk pt [Pt_ pp,Iv_ (ra:Int),Pt_ pm] 32,mpA pm L,trA Tb pp mb n o none] (fun v Γ=>∃ (a2:Nat) (L2:List E) (o2:TB) (m2:Nat),((mb≤m2∧m2≤mb+2)∧LwI n o2 a2 L2 Q∧Kp o.N o2.N Q∧cnt (frC n o.C) 0 1024≤cnt (frC n o2.C) 0 1024+15)∧((cnt (frC n o.C) 0 1024≤12∧L2=L∧a2=ra)∨L2=AV (CP k) L)∧v= .bool true∧Γ=[blk pt [Pt_ pp,Iv_ (a2:Int),Pt_ pm] 32,mpA pm L2,trA Tb pp m2 n o2 none]):=by
 intro z R w H;replace H:=H.l3;have K:=H.says 2 rfl (fun h a=>trA.k a)
 have hn:=K.hn
 have hmn:manyN n≤5:=by unfold manyN;have:=hI.n;omega
 have hvp:=FZ K.i (by omega) (show ∀ e∈L,∃ b,DQ o none e.2=some (.dt b) from hI.root.data)
 have hll:=GI K.i (by omega) (show ∀ e∈L,∃ b,DQ o none e.2=some (.dt b) from hI.root.data) hI.nd
 have hky:=Nh k
 refine Ad func12 rfl ntmps12 rfl (Za 2 [] H rfl ?_);intro b1 w H;refine Z2 7 [0,0,0] H rfl (z_E_ rfl (call11 _) (OG _ 60 hk (by omega)) H ?_);intro w H;refine Zc 3 rfl (EC (fun a w=>Fr 166 [] [(5,Iv_ (CP k)),(0,Pt_ pt),(1,.agg #[Iv_ k,.bool true,Iv_ fl]),(3,Pt_ b1),(4,.bool false),(14,Pt_ b1),(15,Iv_ k),(16,Iv_ (pkI k 60:Int))] a∧Sep z (blk b1 [Iv_ k,.bool true,Iv_ fl] 35::blk pt [Pt_ pp,Iv_ (ra:Int),Pt_ pm] 32::mpA pm L::trA Tb pp mb n o none::R) w) ?_ ?_)
 ·refine Z2 7 [0,0,0,0] H rfl (Af rfl (fun h1=> ?_) (fun h1=> ?_))
  ·refine Z2 3 [0,0,0] H rfl (Ab rfl (Jc rfl rfl rfl (by omega)) (Zc 2 rfl ?_));exact gf fun _ hF=>⟨(hF.co rfl (congrArg Iv_ (by unfold CP;first|rw[if_pos (by omega)]|rw[if_neg (by omega)])) (hF.all rfl)),H⟩
  ·refine Zc 1 rfl ?_;exact gf fun _ hF=>⟨(hF.co rfl (congrArg Iv_ (by unfold CP;first|rw[if_pos (by omega)]|rw[if_neg (by omega)])) (hF.all rfl)),H⟩
 rintro a w ⟨hF,H⟩;revert a;refine Z2 6 [0,1,0] H rfl (z_E_ rfl (call22 _) (FT _ _ _ _ none) H.f3 ?_);intro w H;replace H:=H.l4;refine AC 27 (v:=Iv_ (cnt (frC n o.C) 0 1024:Int)) rfl rfl (Z2 10 [0,2,0] H rfl (z_E_ rfl (call19 _) (Kl _ _ _ _) H ?_));intro w H;replace H:=H.l4;replace H:=(H.mono 0 (B:=trA Tb pp mb n o (some ((⟨o.N,o.C,frC n o.C,0⟩:TS),AW ra++Q))) rfl (fun h q=>by rw[hI.r] at q;exact q)).l4
 refine Z2 15 [4,1,1,0] H rfl ?_;replace H:=H.f2;refine AI (Sep z (blk pt [Pt_ pp,Iv_ (ra:Int),Pt_ pm] 32::R)) 17 rfl (by kernel_rfl) (A9 H fun w H'=> ?_)
 have H:=H'.l4;refine AN [0,1,2,3,4,5,6,7,8] [0,0,0,1,0,0] [] (by exact (H.pick 4 [0] rfl)) rfl (by kernel_rfl) rfl (Az [9] (by kernel_rfl) (by simp) (Ay (BH rfl rfl rfl rfl rfl rfl (fun w=>call18 _ w) (Y6 pp mb n o (⟨o.N,o.C,frC n o.C,0⟩:TS) Q ra (CP k) L hI.root hI.nd hI.n (by show 0≤10;omega) hI.q) H.f1 rfl ?_)));rintro _ w _ (⟨hno,rfl,rfl⟩|⟨hf2,s2,rfl,rfl⟩|⟨t2,r,⟨hke,hSt,hR2,hfr⟩,rfl,rfl⟩) H'
 ·have H:=H'.l4;have hwt:¬ getE (CP k) L≠0:=fun q=>hno ((Hh (fun e he=>(hvp e he).1)).1.1 q)
  have hdl:AV (CP k) L=L:=Fx (fun e he q=>hno ⟨e.2,by rw[←q];exact he⟩)
  refine Ap (H.pick 4 [1] rfl) (AN [10,11,12,13,14,15,16] [] [] (by exact (H.pick 4 [1] rfl)) rfl (by kernel_rfl) rfl (a_done (by kernel_rfl) (gn (Z2 8 [2,1,0] H rfl (z_E_ rfl (call15 _) (Nf _ _ _) H.f3 ?_)))));intro w H;refine Z0 6 [0] rfl (AC 10 (v:= .bool false) rfl (congrArg Value.bool (by simp;omega)) (Z0 20 [4,4] rfl (Ab rfl (Ht rfl (by kernel_rfl) rfl rfl) (Rs 80 rfl rfl (Z2 6 [0,2,0] H rfl (z_E_ rfl (call28 _) (Hc _ _ _ _ _ _ (by show 0+manyN n≤40;omega) hmb) H.f1 ?_))))));intro w H;refine Z4 23 [4,1,2,2,2,0] H rfl ?_;intro w H;refine Ax rfl (call38 _) (Ku _ _ L (by omega)) H.f1 ?_;rintro _ w _ ⟨bb2,rfl,rfl⟩ H;refine Zc 8 rfl (Zr rfl ?_);exact ⟨_,⟨ra,_,⟨o.N,o.C,AW ra++Q⟩,mb+2,⟨⟨by omega,by omega⟩,hI.done (by rw[hdl];exact hI.root) (Hf hI.nd) rfl,fun c hc L h=>h,Nat.le_add_right _ _⟩,.inr rfl,rfl,rfl⟩,H.pick 4 [2,0,1] rfl⟩
 ·have H:=H'.l4;have hf3:cnt (frC n o.C) 0 1024≤12:=hf2
  refine Ap (H.pick 4 [1] rfl) (AN [10,11,12,13,14,15,16] [] [] (by exact (H.pick 4 [1] rfl)) rfl (by kernel_rfl) rfl (a_done (by kernel_rfl) (gn (Z2 8 [2,1,0] H rfl (z_E_ rfl (call15 _) (Nf _ _ _) H.f3 ?_)))));intro w H;refine Z0 15 [0,3,0] rfl (Af rfl (fun h2=> ?_) (fun h2=> ?_))
  ·refine Z2 6 [0,2,0] H rfl (z_E_ rfl (call21 _) (Km _ _ _ _ _) H.f1 ?_);intro w H;refine Z2 8 [0,2,0] H rfl (z_E_ rfl (call22 _) (FT _ _ _ _ none) H ?_);intro w H;replace H:=H.l4;refine AC 72 (v:=Iv_ (cnt (frC n o.C) 0 1024:Int)) rfl rfl (Z0 2 [0] rfl (AC 74 (v:= .bool true) rfl (congrArg Value.bool (by simp)) (Zc 4 rfl (Zr rfl ?_))));exact ⟨_,⟨ra,L,o,mb,⟨⟨by omega,by omega⟩,hI,fun c hc L h=>h,Nat.le_add_right _ _⟩,.inl ⟨by omega,rfl,rfl⟩,rfl,rfl⟩,H.pick 4 [2,1,0] rfl⟩
  ·(exfalso;omega)
 ·have H:=H'.l4;have hwt:getE (CP k) L≠0:=(Hh (fun e he=>(hvp e he).1)).1.2 hke
  have hSk:t2.k≤0+27:=hSt.k
  have hSf:cnt (frC n o.C) 0 1024≤cnt t2.F 0 1024+14:=hSt.f
  refine Ap (H.pick 4 [1] rfl) (AN [10,11,12,13,14,15,16] [] [] (by exact (H.pick 4 [1] rfl)) rfl (by kernel_rfl) rfl (a_done (by kernel_rfl) (gn (Z2 8 [2,1,0] H rfl (z_E_ rfl (call15 _) (Nf _ _ _) H.f3 ?_)))));intro w H;refine Z0 6 [0] rfl (AC 10 (v:= .bool true) rfl (congrArg Value.bool (by simp;omega)) (Z0 20 [4,4] rfl (Ab rfl (Ht rfl (by kernel_rfl) rfl rfl) (Rs 80 rfl rfl (Z2 6 [0,2,0] H rfl (z_E_ rfl (call28 _) (Hc _ _ _ _ _ _ (by omega) hmb) H.f1 ?_))))));intro w H;refine Z4 23 [4,1,2,2,2,0] H rfl ?_;intro w H;refine Ax rfl (call38 _) (Ku _ _ L (by omega)) H.f1 ?_;rintro _ w _ ⟨bb3,rfl,rfl⟩ H;refine Zc 8 rfl (Zr rfl ?_);exact ⟨_,⟨r,_,_,mb+2,⟨⟨by omega,by omega⟩,hI.done hR2 (Hf hI.nd) rfl,Kp.of fun c hc h lo hi m L x=>hSt.fr c hc h lo hi m L x,by show cnt (frC n o.C) 0 1024≤cnt (frC n t2.C) 0 1024+15;omega⟩,.inr rfl,rfl,rfl⟩,H.pick 4 [2,0,1] rfl⟩
set_option maxHeartbeats 2000000 in
theorem Wx (pt pm pp mb n:Nat) (o:TB) (ra:Nat) (L:List E) (Q:List Nat) (k fl:Int) (hI:LwI n o ra L Q) (hmb:mb≤1000000000) (hk: -9223372036854775808≤k∧k≤9223372036854775807):Cn prog 12 [Pt_ pt,.agg #[Iv_ k,.bool false,Iv_ fl]] [blk pt [Pt_ pp,Iv_ (ra:Int),Pt_ pm] 32,mpA pm L,trA Tb pp mb n o none] (fun v Γ=>∃ (a2:Nat) (L2:List E) (o2:TB) (m2:Nat),((mb≤m2∧m2≤mb+2)∧LwI n o2 a2 L2 Q∧Kp o.N o2.N Q∧cnt (frC n o.C) 0 1024≤cnt (frC n o2.C) 0 1024+15)∧((cnt (frC n o.C) 0 1024≤12∧L2=L∧a2=ra)∨∃ val,L2=putE (CP k) val L)∧v= .bool true∧Γ=[blk pt [Pt_ pp,Iv_ (a2:Int),Pt_ pm] 32,mpA pm L2,trA Tb pp m2 n o2 none]):=by
 intro z R w H;replace H:=H.l3;have K:=H.says 2 rfl (fun h a=>trA.k a)
 have hn:=K.hn
 have hmn:manyN n≤5:=by unfold manyN;have:=hI.n;omega
 have hvp:=FZ K.i (by omega) (show ∀ e∈L,∃ b,DQ o none e.2=some (.dt b) from hI.root.data)
 have hll:=GI K.i (by omega) (show ∀ e∈L,∃ b,DQ o none e.2=some (.dt b) from hI.root.data) hI.nd
 have hky:=Nh k
 refine Ad func12 rfl ntmps12 rfl (Za 2 [] H rfl ?_);intro b1 w H;refine Z2 7 [0,0,0] H rfl (z_E_ rfl (call11 _) (OG _ 60 hk (by omega)) H ?_);intro w H;refine Zc 3 rfl (EC (fun a w=>Fr 166 [] [(5,Iv_ (CP k)),(0,Pt_ pt),(1,.agg #[Iv_ k,.bool false,Iv_ fl]),(3,Pt_ b1),(4,.bool false),(14,Pt_ b1),(15,Iv_ k),(16,Iv_ (pkI k 60:Int))] a∧Sep z (blk b1 [Iv_ k,.bool false,Iv_ fl] 35::blk pt [Pt_ pp,Iv_ (ra:Int),Pt_ pm] 32::mpA pm L::trA Tb pp mb n o none::R) w) ?_ ?_)
 ·refine Z2 7 [0,0,0,0] H rfl (Af rfl (fun h1=> ?_) (fun h1=> ?_))
  ·refine Z2 3 [0,0,0] H rfl (Ab rfl (Jc rfl rfl rfl (by omega)) (Zc 2 rfl ?_));exact gf fun _ hF=>⟨(hF.co rfl (congrArg Iv_ (by unfold CP;first|rw[if_pos (by omega)]|rw[if_neg (by omega)])) (hF.all rfl)),H⟩
  ·refine Zc 1 rfl ?_;exact gf fun _ hF=>⟨(hF.co rfl (congrArg Iv_ (by unfold CP;first|rw[if_pos (by omega)]|rw[if_neg (by omega)])) (hF.all rfl)),H⟩
 rintro a w ⟨hF,H⟩;revert a;refine Z2 6 [0,1,0] H rfl (z_E_ rfl (call22 _) (FT _ _ _ _ none) H.f3 ?_);intro w H;replace H:=H.l4;refine AC 27 (v:=Iv_ (cnt (frC n o.C) 0 1024:Int)) rfl rfl (Z2 10 [0,2,0] H rfl (z_E_ rfl (call19 _) (Kl _ _ _ _) H ?_));intro w H;replace H:=H.l4;replace H:=(H.mono 0 (B:=trA Tb pp mb n o (some ((⟨o.N,o.C,frC n o.C,0⟩:TS),AW ra++Q))) rfl (fun h q=>by rw[hI.r] at q;exact q)).l4
 refine Z2 17 [4,1,1,0] H rfl ?_;replace H:=H.f1.f2;refine AI (Sep z (blk pt [Pt_ pp,Iv_ (ra:Int),Pt_ pm] 32::blk b1 [Iv_ k,.bool false,Iv_ fl] 35::R)) 13 rfl (by kernel_rfl) (A9 H fun w H'=> ?_)
 have H:=H'.l4;refine AN [0,1,2,3,4,5] [0,0,0,2,1,0] [] (by exact (H.pick 4 [0,1] rfl)) rfl (by kernel_rfl) rfl (Az [6] (by kernel_rfl) (by simp) (Ay (BH rfl rfl rfl rfl rfl rfl (fun w=>call40 _ w) (Yo _) H rfl ?_)));rintro _ w _ ⟨pb,rfl,rfl⟩ H;replace H:=H.l5;refine Ap (H.pick 5 [1,2] rfl) (Az [7] (by kernel_rfl) (by simp) (Ay (BH rfl rfl rfl rfl rfl rfl (fun w=>call39 _ w) (Wv pp mb n o (⟨o.N,o.C,frC n o.C,0⟩:TS) (AW ra++Q) fl pb (by show 0<40;omega)) H.f3 rfl ?_)));rintro _ w _ (⟨h00,rfl,rfl⟩|⟨val,t2,⟨hv0,hvd,hnv,hkT,hk2,hf2⟩,rfl,rfl⟩) H'
 ·have H:=H'.l5;have hf3:cnt (frC n o.C) 0 1024=0:=h00
  refine Ap (H.pick 5 [2,3] rfl) (AN [8,9,10,11,12] [] [] (by exact (H.pick 5 [2,3] rfl)) rfl (by kernel_rfl) rfl (a_done (by kernel_rfl) (gn (Z2 17 [4,0,2,0] H rfl (z_E_ rfl (call21 _) (Km _ _ _ _ _) H ?_)))));intro w H;refine Z0 11 [3,0] rfl (Al 157 rfl (fun h2=> ?_) (fun h2=> ?_))
  ·refine Z2 4 [0,2,0] H rfl (z_E_ rfl (call22 _) (FT _ _ _ _ none) H ?_);intro w H;replace H:=H.l5;refine AC 162 (v:=Iv_ (cnt (frC n o.C) 0 1024:Int)) rfl rfl (Z0 2 [0] rfl (AC 164 (v:= .bool true) rfl (congrArg Value.bool (by simp)) (Zc 5 rfl (Zr rfl ?_))));exact ⟨_,⟨ra,L,o,mb,⟨⟨by omega,by omega⟩,hI,fun c hc L h=>h,Nat.le_add_right _ _⟩,.inl ⟨by omega,rfl,rfl⟩,rfl,rfl⟩,H.pick 5 [2,4,0] rfl⟩
  ·(exfalso;omega)
 ·have H:=H'.l5;have hf3:cnt (frC n o.C) 0 1024=cnt t2.F 0 1024+1:=hf2
  have hk3:t2.k≤0+1:=hk2
  refine Ap (H.pick 5 [2,3] rfl) (AN [8,9,10,11,12] [] [] (by exact (H.pick 5 [2,3] rfl)) rfl (by kernel_rfl) rfl (a_done (by kernel_rfl) (gn (Z0 15 [3] rfl ?_))));replace H:=H.f2;refine AI (Sep z (blk pt [Pt_ pp,Iv_ (ra:Int),Pt_ pm] 32::R)) 16 rfl (by kernel_rfl) (A9 H fun w H'=> ?_)
  have H:=H'.l5;refine AN [0,1,2,3,4,5,6,7,8,9] [0,0,0,1,0,0] [] (by exact (H.pick 5 [0] rfl)) rfl (by kernel_rfl) rfl (Az [10] (by kernel_rfl) (by simp) (Ay ?_));have hR2:Root t2.N ra L:=Kp.of (Q:=[ra]) (fun c _ h=>hkT h c) ra (by simp) L hI.root
  refine BH rfl rfl rfl rfl rfl rfl (fun w=>call17 _ w) (Y5 pp mb n o t2 Q ra (CP k) val _ L hR2 hI.n hky hvd hnv (by omega) hI.q) H.f1 rfl ?_;rintro _ w _ (⟨hf4,s3,rfl,rfl⟩|⟨t3,r,⟨hSt3,hR3,hfr⟩,rfl,rfl⟩) H'
  ·have H:=H'.l5;refine Ap (H.pick 5 [1] rfl) (AN [11,12,13,14,15] [] [] (by exact (H.pick 5 [1] rfl)) rfl (by kernel_rfl) rfl (a_done (by kernel_rfl) (gn (Z2 16 [4,0,1,0] H rfl (z_E_ rfl (call21 _) (Km _ _ _ _ _) H ?_)))));intro w H;refine Z0 11 [3,0] rfl (Al 157 rfl (fun h3=> ?_) (fun h3=> ?_))
   ·refine Z2 4 [0,1,0] H rfl (z_E_ rfl (call22 _) (FT _ _ _ _ none) H ?_);intro w H;replace H:=H.l5;refine AC 162 (v:=Iv_ (cnt (frC n o.C) 0 1024:Int)) rfl rfl (Z0 2 [0] rfl (AC 164 (v:= .bool true) rfl (congrArg Value.bool (by simp)) (Zc 5 rfl (Zr rfl ?_))));exact ⟨_,⟨ra,L,o,mb,⟨⟨by omega,by omega⟩,hI,fun c hc L h=>h,Nat.le_add_right _ _⟩,.inl ⟨by omega,rfl,rfl⟩,rfl,rfl⟩,H.pick 5 [1,4,0] rfl⟩
   ·(exfalso;omega)
  ·have H:=H'.l5;have hSk:=hSt3.k
   have hSf:=hSt3.f
   have hnd3:(vals (putE (CP k) val L)).Nodup:=Pw hI.root.srt.1 hI.nd (fun q=>by obtain ⟨e,he,rfl⟩:=List.mem_map.1 q;obtain ⟨b,hb⟩:=hI.root.data e he;rw[show o.N e.2=none from hv0] at hb;cases hb)
   refine Ap (H.pick 5 [1] rfl) (AN [11,12,13,14,15] [] [] (by exact (H.pick 5 [1] rfl)) rfl (by kernel_rfl) rfl (a_done (by kernel_rfl) (gn (Z2 15 [3,0,1,0] H rfl (z_E_ rfl (call28 _) (Hc _ _ _ _ _ _ (by omega) hmb) H ?_)))));intro w H;refine Z4 23 [4,1,1,2,1,0] H rfl ?_;intro w H;refine z_E_ rfl (call41 _) (Yp _ _ val L (by omega) hI.root.srt.1) H.f4 ?_;intro w H;refine Zc 8 rfl (Zr rfl ?_);exact ⟨_,⟨r,_,_,mb+2,⟨⟨by omega,by omega⟩,hI.done hR3 hnd3 rfl,Kp.of fun c hc h lo hi m L x=>hSt3.fr c hc h lo hi m L (hkT h c lo hi m L x),by show cnt (frC n o.C) 0 1024≤cnt (frC n t3.C) 0 1024+15;omega⟩,.inr ⟨val,rfl⟩,rfl,rfl⟩,H.pick 5 [2,0,1] rfl⟩
end
section
open Go.RowKit
variable {Tb:Ae}
theorem Y7 {P:Nat→Int→Int→List E→Prop} {es:List E} {i:Nat} {e:E} {hi:Int} {L2:List E} (he:es[i]? =some e) (h:Sq P (es.drop i) hi L2):∃ Lc L3,L2=Lc++L3∧P e.2 e.1 (nx (es.drop (i+1)) hi) Lc∧Sq P (es.drop (i+1)) hi L3:=by
 obtain ⟨hi',rfl⟩:=List.getElem?_eq_some_iff.1 he
 rw[List.drop_eq_getElem_cons hi'] at h
 exact h
theorem Y8 {es:List E} {i:Nat} (hi:Int) (h:i+1<es.length):((kL es).map Iv_)[i+1]? =some (Iv_ (nx (es.drop (i+1)) hi)):=by
 rw[List.drop_eq_getElem_cons h]
 simp[kL,nx,List.getElem?_eq_getElem h]
theorem OH {es:List E} {i:Nat} {e:E} (l:List E) (he:es[i]? =some e):l++es.take (i+1)=l++es.take i++[e]:=by
 rw[List.take_add_one,he,←List.append_assoc];rfl
theorem OI (k y:Int):Cn prog 130 [Iv_ k,Iv_ y] [] (fun v Γ=>v= .bool (decide ((0≤k∧k<1048576)∧1≤y∧y<1024))∧Γ=[]):=by
 intro z R w H;replace H:=H.l0;refine Ad func130 rfl ntmps130 rfl (Z0 10 [0] rfl (Al 7 rfl (fun h1=> ?_) (fun h1=> ?_)))
 ·refine Z0 4 [0] rfl (Al 11 rfl (fun h2=> ?_) (fun h2=> ?_))
  ·refine Z0 4 [0] rfl (Al 15 rfl (fun h3=> ?_) (fun h3=> ?_))
   ·refine Z0 7 [0] rfl (Zr rfl ?_);exact ⟨_,⟨congrArg Value.bool (by first|(rw[Bool.eq_iff_iff];simp<;>omega)|(simp<;>omega)),rfl⟩,H⟩
   ·refine Zc 7 rfl (Zr rfl ?_);exact ⟨_,⟨congrArg Value.bool (by first|(rw[Bool.eq_iff_iff];simp<;>omega)|(simp<;>omega)),rfl⟩,H⟩
  ·refine Zc 11 rfl (Zr rfl ?_);exact ⟨_,⟨congrArg Value.bool (by first|(rw[Bool.eq_iff_iff];simp<;>omega)|(simp<;>omega)),rfl⟩,H⟩
 ·refine Zc 15 rfl (Zr rfl ?_);exact ⟨_,⟨congrArg Value.bool (by first|(rw[Bool.eq_iff_iff];simp<;>omega)|(simp<;>omega)),rfl⟩,H⟩
theorem Rh (lf:Bool) (kv vv:Value) (ks vs:List Int) (A B:Ae) (hA:∀ h,A h→rdH 1 kv ks.length (ks.map Iv_) h) (hB:∀ h,B h→rdH 1 vv vs.length (vs.map Iv_) h) (hck:CkN lf ks vs):Cn prog 85 [.agg #[.bool lf,kv,vv]] [A,B] (fun v Γ=>v= .bool true∧Γ=[A,B]):=by
 intro z R w H;replace H:=H.l2;obtain ⟨ka,kc,rfl⟩:=H.says 0 rfl (fun h q=>(hA h q).slc);obtain ⟨va,vc,rfl⟩:=H.says 1 rfl (fun h q=>(hB h q).slc);have hclk:=H.says 0 rfl (fun h q=>(hA h q).slcap)
 have hclv:=H.says 1 rfl (fun h q=>(hB h q).slcap)
 have hlen:=hck.len;have hl8:=hck.l8;have hne:=hck.ne
 refine Ad func85 rfl ntmps85 rfl (Za 2 [] H rfl ?_);intro b1 w H;refine Z2 14 [1,0,0,2,0,0,0] H rfl (Al 12 rfl (fun h1=> ?_) (fun h1=> ?_))
 ·(exfalso;omega)
 ·refine Z2 6 [1,0,0,0] H rfl (Al 18 rfl (fun h2=> ?_) (fun h2=> ?_))
  ·(exfalso;omega)
  ·refine Z2 4 [0,0,0] H rfl (FE 22 rfl (fun h3=> ?_) (fun h3=> ?_))
   ·refine Z2 8 [1,0,0,0] H rfl (Af rfl (fun h4=> ?_) (fun h4=> ?_))
    ·(exfalso;rcases hne with q|q<;>simp_all)
    ·refine Zc 9 rfl ?_;refine AG (σ:=Nat) (fun i=>[(3,Iv_ (i:Int)),(1,Pt_ b1)])
       (fun i w=>Sep z (blk b1 [.bool lf,.slice ka ks.length kc,.slice va vs.length vc] 54::A::B::R) w∧(i≤ks.length)) (fun i=>ks.length - i) 0
       (fun _ hF=>(hF.co rfl (by go_num) (hF.all rfl))) ⟨H,Nat.zero_le _⟩ ?_
     clear H;rintro i w ⟨H',hI⟩;have H:=H'.l3;have hin:=hI;clear hI
     refine Z2 10 [1,0,0,0] H rfl (Af rfl (fun h5=> ?_) (fun h5=> ?_))
     ·obtain ⟨x,hx⟩:∃ x,ks[i]? =some x:=⟨_,List.getElem?_eq_getElem (by omega)⟩;obtain ⟨y,hy⟩:∃ y,vs[i]? =some y:=⟨_,List.getElem?_eq_getElem (by omega)⟩;have hxk:=hck.k x (List.mem_of_getElem? hx)
      have hyv:=hck.v y (List.mem_of_getElem? hy)
      refine Zc 5 rfl ?_;have hka:=(H.rd 1 rfl hA).at (j:=i) (u:=Iv_ x) (by simp[hx])
      have hva:=(H.rd 2 rfl hB).at (j:=i) (u:=Iv_ y) (by simp[hy])
      refine A8 (Sep z _) (by kernel_rfl) (by kernel_rfl) H.drew (Dk 3 [1,0] (fun _ hx=>(Bk (hx.blk 0 rfl) Bq)) rfl (by kernel_rfl) rfl (AQ rfl rfl rfl (Aj rfl (z:=1) (j:=i) (r:=i) (by kernel_rfl) rfl rfl rfl (by omega) hka (by omega)) (AQ rfl rfl rfl (Av rfl rfl (by kernel_rfl) (fun _ hx'=>(hx'.rd 1 rfl hA).at (j:=i) (u:=Iv_ x) (by simp[hx]))) (Dk 3 [2,0] (fun _ hx=>(Bk (hx.blk 0 rfl) Bq)) rfl (by kernel_rfl) rfl (AQ rfl rfl rfl (Aj rfl (z:=1) (j:=i) (r:=i) (by kernel_rfl) rfl rfl rfl (by omega) hva (by omega)) (AQ rfl rfl rfl (Av rfl rfl (by kernel_rfl) (fun _ hx'=>(hx'.rd 2 rfl hB).at (j:=i) (u:=Iv_ y) (by simp[hy]))) (Cl rfl rfl rfl rfl rfl (fun w=>call130 _ w) (v:= .bool (decide ((0≤x∧x<1048576)∧1≤y∧y<1024))) (cq (OI _ _) (by rintro _ _ ⟨rfl,rfl⟩;exact ⟨rfl,rfl⟩) 0 [] [] rfl rfl rfl rfl) (BG 1 [] rfl (by kernel_rfl) (Bi (fun w H'=> ?_))))))))));have H:=H'.l3;refine gn (Zc 2 rfl (A8 (Sep z _) (by kernel_rfl) (by kernel_rfl) H.drew (BG 1 [] rfl (by kernel_rfl) (AQ rfl rfl rfl (AR rfl rfl) (BG 1 [] rfl (by kernel_rfl) (B3 49 rfl (fun h6=> ?_) (fun h6=> ?_)))))))
      ·(exfalso;omega)
      ·refine BG 3 [] rfl (by kernel_rfl) (B3 52 rfl (fun h7=> ?_) (fun h7=> ?_))
       ·obtain ⟨x0,hx0⟩:∃ x0,ks[i - 1]? =some x0:=⟨_,List.getElem?_eq_getElem (by omega)⟩;have hx0x:=hck.s (i - 1) x0 x hx0 (by rw[show i - 1+1=i by omega];exact hx)
        refine Dk 3 [1,0] (fun _ hx=>(Bk (hx.blk 0 rfl) Bq)) rfl (by kernel_rfl) rfl (AQ rfl rfl rfl (Aj rfl (z:=1) (j:=i) (r:=i) (by kernel_rfl) rfl rfl rfl (by omega) hka (by omega)) (AQ rfl rfl rfl (Av rfl rfl (by kernel_rfl) (fun _ hx'=>(hx'.rd 1 rfl hA).at (j:=i) (u:=Iv_ x) (by simp[hx]))) (F4 4 [1,0,0] [(i:Int) - 1] rfl (by kernel_rfl) (by omega) (AQ rfl rfl rfl (Aj rfl (z:=1) (j:=(i - 1)) (r:=(i - 1)) (by kernel_rfl) rfl rfl (by omega) (by omega) hka (by omega)) (AQ rfl rfl rfl (Av rfl rfl (by kernel_rfl) (fun _ hx'=>(hx'.rd 1 rfl hA).at (j:=i - 1) (u:=Iv_ x0) (by simp[hx0]))) (BG 3 [] rfl (by kernel_rfl) (Bi (fun w H'=> ?_))))))));have H:=H'.l3;refine gn (Zc 1 rfl (Af rfl (fun h8=> ?_) (fun h8=> ?_)))
        ·(exfalso;omega)
        ·refine Z1 8 [] [(i:Int)+1] rfl (by omega) (gf ?_);intro _ hF;refine ⟨(i+1),(hF.co rfl (by go_num) (hF.all rfl)),⟨H,?_⟩,?_⟩
         ·omega
         ·omega
       ·refine BG 14 [] rfl (by kernel_rfl) (Bi (fun w H'=> ?_));have H:=H'.l3;refine gn (Z1 10 [] [(i:Int)+1] rfl (by omega) (gf ?_));intro _ hF;refine ⟨(i+1),(hF.co rfl (by go_num) (hF.all rfl)),⟨H,?_⟩,?_⟩
        ·omega
        ·omega
     ·refine Zc 2 rfl (gx (Zc 8 rfl (Zr rfl ?_)));exact ⟨_,⟨rfl,rfl⟩,H.perm 3 [1,2] rfl rfl⟩
   ·refine Zc 18 rfl ?_;refine AG (σ:=Nat) (fun i=>[(3,Iv_ (i:Int)),(1,Pt_ b1)])
      (fun i w=>Sep z (blk b1 [.bool lf,.slice ka ks.length kc,.slice va vs.length vc] 54::A::B::R) w∧(i≤ks.length)) (fun i=>ks.length - i) 0
      (fun _ hF=>(hF.co rfl (by go_num) (hF.all rfl))) ⟨H,Nat.zero_le _⟩ ?_
    clear H;rintro i w ⟨H',hI⟩;have H:=H'.l3;have hin:=hI;clear hI
    refine Z2 10 [1,0,0,0] H rfl (Af rfl (fun h9=> ?_) (fun h9=> ?_))
    ·obtain ⟨x,hx⟩:∃ x,ks[i]? =some x:=⟨_,List.getElem?_eq_getElem (by omega)⟩;obtain ⟨y,hy⟩:∃ y,vs[i]? =some y:=⟨_,List.getElem?_eq_getElem (by omega)⟩;have hxk:=hck.k x (List.mem_of_getElem? hx)
     have hyv:=hck.v y (List.mem_of_getElem? hy)
     refine Zc 5 rfl ?_;have hka:=(H.rd 1 rfl hA).at (j:=i) (u:=Iv_ x) (by simp[hx])
     have hva:=(H.rd 2 rfl hB).at (j:=i) (u:=Iv_ y) (by simp[hy])
     refine A8 (Sep z _) (by kernel_rfl) (by kernel_rfl) H.drew (Dk 3 [1,0] (fun _ hx=>(Bk (hx.blk 0 rfl) Bq)) rfl (by kernel_rfl) rfl (AQ rfl rfl rfl (Aj rfl (z:=1) (j:=i) (r:=i) (by kernel_rfl) rfl rfl rfl (by omega) hka (by omega)) (AQ rfl rfl rfl (Av rfl rfl (by kernel_rfl) (fun _ hx'=>(hx'.rd 1 rfl hA).at (j:=i) (u:=Iv_ x) (by simp[hx]))) (Dk 3 [2,0] (fun _ hx=>(Bk (hx.blk 0 rfl) Bq)) rfl (by kernel_rfl) rfl (AQ rfl rfl rfl (Aj rfl (z:=1) (j:=i) (r:=i) (by kernel_rfl) rfl rfl rfl (by omega) hva (by omega)) (AQ rfl rfl rfl (Av rfl rfl (by kernel_rfl) (fun _ hx'=>(hx'.rd 2 rfl hB).at (j:=i) (u:=Iv_ y) (by simp[hy]))) (Cl rfl rfl rfl rfl rfl (fun w=>call130 _ w) (v:= .bool (decide ((0≤x∧x<1048576)∧1≤y∧y<1024))) (cq (OI _ _) (by rintro _ _ ⟨rfl,rfl⟩;exact ⟨rfl,rfl⟩) 0 [] [] rfl rfl rfl rfl) (BG 1 [] rfl (by kernel_rfl) (Bi (fun w H'=> ?_))))))))));have H:=H'.l3;refine gn (Zc 2 rfl (A8 (Sep z _) (by kernel_rfl) (by kernel_rfl) H.drew (BG 1 [] rfl (by kernel_rfl) (AQ rfl rfl rfl (AR rfl rfl) (BG 1 [] rfl (by kernel_rfl) (B3 49 rfl (fun h10=> ?_) (fun h10=> ?_)))))))
     ·(exfalso;omega)
     ·refine BG 3 [] rfl (by kernel_rfl) (B3 52 rfl (fun h11=> ?_) (fun h11=> ?_))
      ·obtain ⟨x0,hx0⟩:∃ x0,ks[i - 1]? =some x0:=⟨_,List.getElem?_eq_getElem (by omega)⟩;have hx0x:=hck.s (i - 1) x0 x hx0 (by rw[show i - 1+1=i by omega];exact hx)
       refine Dk 3 [1,0] (fun _ hx=>(Bk (hx.blk 0 rfl) Bq)) rfl (by kernel_rfl) rfl (AQ rfl rfl rfl (Aj rfl (z:=1) (j:=i) (r:=i) (by kernel_rfl) rfl rfl rfl (by omega) hka (by omega)) (AQ rfl rfl rfl (Av rfl rfl (by kernel_rfl) (fun _ hx'=>(hx'.rd 1 rfl hA).at (j:=i) (u:=Iv_ x) (by simp[hx]))) (F4 4 [1,0,0] [(i:Int) - 1] rfl (by kernel_rfl) (by omega) (AQ rfl rfl rfl (Aj rfl (z:=1) (j:=(i - 1)) (r:=(i - 1)) (by kernel_rfl) rfl rfl (by omega) (by omega) hka (by omega)) (AQ rfl rfl rfl (Av rfl rfl (by kernel_rfl) (fun _ hx'=>(hx'.rd 1 rfl hA).at (j:=i - 1) (u:=Iv_ x0) (by simp[hx0]))) (BG 3 [] rfl (by kernel_rfl) (Bi (fun w H'=> ?_))))))));have H:=H'.l3;refine gn (Zc 1 rfl (Af rfl (fun h12=> ?_) (fun h12=> ?_)))
       ·(exfalso;omega)
       ·refine Z1 8 [] [(i:Int)+1] rfl (by omega) (gf ?_);intro _ hF;refine ⟨(i+1),(hF.co rfl (by go_num) (hF.all rfl)),⟨H,?_⟩,?_⟩
        ·omega
        ·omega
      ·refine BG 14 [] rfl (by kernel_rfl) (Bi (fun w H'=> ?_));have H:=H'.l3;refine gn (Z1 10 [] [(i:Int)+1] rfl (by omega) (gf ?_));intro _ hF;refine ⟨(i+1),(hF.co rfl (by go_num) (hF.all rfl)),⟨H,?_⟩,?_⟩
       ·omega
       ·omega
    ·refine Zc 2 rfl (gx (Zc 8 rfl (Zr rfl ?_)));exact ⟨_,⟨rfl,rfl⟩,H.perm 3 [1,2] rfl rfl⟩
set_option maxHeartbeats 2000000 in
theorem Yq (pp mb n:Nat) (o:TB) (ra:Nat) (rt:Bool) (lo hi:Int) (m:Nat) (L l:List E) (dp:Nat) (u:Value) (hT:Tr o.N 0 ra lo hi m L) (hm:(if rt then (if 0=0 then 1 else 2) else 4)≤m) (hdp:dp+0≤8) (hll:l.length+L.length≤1048576):Cn prog 42 [Pt_ pp,Iv_ (ra:Int),.bool rt,Iv_ lo,Iv_ hi,Iv_ (dp:Int),u] [trA Tb pp mb n o none,grow 87 2 u l.length (Bj l)] (fun v Γ=>∃ u2:Value,v= .tuple #[Iv_ (((0:Nat):Int)+1),u2]∧Γ=[trA Tb pp mb n o none,grow 87 2 u2 (l++L).length (Bj (l++L))]):=by
 intro z R w H;replace H:=H.l2;have su:=H.says 1 rfl (fun h q=>q.slc)
 have K:=H.says 0 rfl (fun h a=>trA.k a)
 have hn:=K.hn
 obtain ⟨es,hN,hme,hrg,hok,hLe,hdt⟩:=hT;obtain rfl:es=L:=hLe.symm;have hck:CkN true (kL es) (vL es):=K.i.vok (by omega) hn.2 hN
 have hes8:es.length≤8:=hok.len
 have hr1:rt=true→1≤es.length:=fun q=>by rw[if_pos q,if_pos rfl] at hm;omega
 have hr4:rt=false→4≤es.length:=fun q=>by rw[if_neg (by rw[q];decide)] at hm;omega
 refine Ad func42 rfl ntmps42 rfl (Zc 10 rfl (Ax rfl (call24 _) (FV pp mb n o none ra true es hN) H ?_));rintro _ w _ ⟨nk,nv,rfl,rfl⟩ H;replace H:=H.l4;have snk:=H.says 0 rfl (fun h q=>q.slc)
 obtain ⟨ka,kc,rfl⟩:=snk;have snv:=H.says 1 rfl (fun h q=>q.slc)
 obtain ⟨va,vc,rfl⟩:=snv;refine Za 3 [] H rfl ?_;intro b1 w H;refine Z4 7 [0,0,3] H rfl ?_;intro w H;refine z_E_ rfl (call85 _) (Rh _ _ _ (kL es) (vL es) _ _ (fun h q=>q.rd) (fun h q=>q.rd) hck) H.f2.f2 ?_;intro w H;refine Z0 18 [4,0] rfl (Af rfl (fun h1=> ?_) (fun h1=> ?_))
 ·(exfalso;omega)
 ·refine Zc 7 rfl (EC (fun a w=>∃ (ls:Int),Fr 140 [] [(19,Iv_ ls),(0,Pt_ pp),(1,Iv_ (ra:Int)),(2,.bool rt),(3,Iv_ lo),(4,Iv_ hi),(5,Iv_ (dp:Int)),(6,u),(14,Iv_ 0),(15,.slice none 0 0),(16,Pt_ b1),(17,Iv_ 0),(18,.bool true),(24,.tuple #[.agg #[.bool true,.slice ka ((kL es).length) kc,.slice va ((vL es).length) vc],Iv_ 0]),(25,Pt_ pp),(26,Iv_ (ra:Int)),(27,.tuple #[.agg #[.bool true,.slice ka ((kL es).length) kc,.slice va ((vL es).length) vc],Iv_ 0]),(28,.agg #[.bool true,.slice ka ((kL es).length) kc,.slice va ((vL es).length) vc]),(29,Iv_ 0),(30,.agg #[.bool true,.slice ka ((kL es).length) kc,.slice va ((vL es).length) vc]),(31,.bool true),(32,Iv_ 0),(33,.bool false),(34,.bool false),(35,.bool true),(36,.bool false),(37,.bool false),(38,.bool false),(39,Iv_ (dp:Int)),(40,.bool (decide ((8:Int)<(dp:Int)))),(41,.bool (decide ((8:Int)<(dp:Int))))] a∧Sep z (grow 3 1 (.slice ka ((kL es).length) kc) ((kL es).length) ((kL es).map Iv_)::grow 3 1 (.slice va ((vL es).length) vc) ((vL es).length) ((vL es).map Iv_)::blk b1 [.bool true,.slice ka ((kL es).length) kc,.slice va ((vL es).length) vc] 54::trA Tb pp mb n o none::grow 87 2 u l.length (Bj l)::R) w∧(ls≤(es.length:Int))) ?_ ?_)
  ·refine Zc 5 rfl (DW rfl (fun h2=> ?_) (fun h2=> ?_))
   ·refine Z2 15 [0,2,0] H rfl ?_;exact gf fun _ hF=>⟨1,(hF.all rfl),H,(by first|(have q:=hr1 (by assumption);omega)|(have q:=hr4 (by assumption);omega))⟩
   ·refine Zc 1 rfl ?_;exact gf fun _ hF=>⟨4,(hF.all rfl),H,(by first|(have q:=hr1 (by assumption);omega)|(have q:=hr4 (by assumption);omega))⟩
  rintro a w ⟨ls,hF,H,hI⟩;revert a;refine Z2 10 [1,2,0,0] H rfl (Af rfl (fun h3=> ?_) (fun h3=> ?_))
  ·(exfalso;simp only[List.length_map] at *;omega)
  ·refine Zc 14 rfl ?_;refine AG (σ:=Nat×Value) (fun ⟨i,u⟩=>[(21,Iv_ (i:Int)),(20,Iv_ 0),(6,u),(0,Pt_ pp),(3,Iv_ lo),(4,Iv_ hi),(5,Iv_ (dp:Int)),(16,Pt_ b1)])
     (fun ⟨i,u⟩ w=>Sep z (grow 3 1 (.slice ka ((kL es).length) kc) ((kL es).length) ((kL es).map Iv_)::grow 3 1 (.slice va ((vL es).length) vc) ((vL es).length) ((vL es).map Iv_)::blk b1 [.bool true,.slice ka ((kL es).length) kc,.slice va ((vL es).length) vc] 54::trA Tb pp mb n o none::grow 87 2 u ((l++es.take i).length) (Bj (l++es.take i))::R) w∧(i≤es.length)) (fun ⟨i,u⟩=>es.length - i) ⟨0,u⟩
     (fun _ hF=>(hF.co rfl (by go_num) (hF.all rfl))) ⟨(by simpa using H),Nat.zero_le _⟩ ?_
   clear H;rintro ⟨i,u⟩ w ⟨H',hI⟩;dsimp only at hI H' ⊢
   have H:=H'.l5;have su:=H.says 4 rfl (fun h q=>q.slc)
   have hil0:=hI;clear hI
   have hkl:(kL es).length=es.length:=by simp
   have hvl:(vL es).length=es.length:=by simp
   refine Z2 10 [1,2,0,0] H rfl (Af rfl (fun h4=> ?_) (fun h4=> ?_))
   ·refine Zc 6 rfl ?_;have hil:i<es.length:=by simp only[List.length_map] at *;omega
    obtain ⟨e,he⟩:∃ e,es[i]? =some e:=⟨_,List.getElem?_eq_getElem hil⟩;have hem:=List.mem_of_getElem? he
    have her:=hrg e hem
    have hka:=(H.rd 0 rfl (fun h q=>q.rd)).at (j:=i) (u:=Iv_ e.1) (by simp[kL,he])
    have hva:=(H.rd 1 rfl (fun h q=>q.rd)).at (j:=i) (u:=Iv_ (e.2:Int)) (by simp[vL,he])
    refine Z2 4 [1,2,0] H rfl (Ab rfl (Aj rfl (z:=1) (j:=i) (r:=i) (by kernel_rfl) rfl rfl rfl (by omega) hka (by omega)) (Ab rfl (Av rfl rfl (by kernel_rfl) (Aq hka)) (Z0 3 [0] rfl (Al 66 rfl (fun h5=> ?_) (fun h5=> ?_)))))
    ·(exfalso;omega)
    ·refine Z2 3 [1,2,0] H rfl (Ab rfl (Aj rfl (z:=1) (j:=i) (r:=i) (by kernel_rfl) rfl rfl rfl (by omega) hka (by omega)) (Ab rfl (Av rfl rfl (by kernel_rfl) (Aq hka)) (Z0 5 [0] rfl (Af rfl (fun h6=> ?_) (fun h6=> ?_)))))
     ·(exfalso;omega)
     ·refine Z2 11 [0,2,0] H rfl ?_;replace H:=H.f1.f1.f2;refine AI (Sep z (blk b1 [.bool true,.slice ka ((kL es).length) kc,.slice va ((vL es).length) vc] 54::grow 3 1 (.slice ka ((kL es).length) kc) ((kL es).length) ((kL es).map Iv_)::grow 3 1 (.slice va ((vL es).length) vc) ((vL es).length) ((vL es).map Iv_)::R)) 15 rfl (by kernel_rfl) (A9 H fun w H'=> ?_)
      have H:=H'.l5;refine AN [0,1,2,3] [1,0,0] [] (by exact (H.pick 5 [0,1,2] rfl)) rfl (by kernel_rfl) rfl (BC 4 rfl (by kernel_rfl) (by kernel_rfl) (by kernel_rfl) rfl rfl rfl (Aj rfl (z:=1) (j:=i) (r:=i) (by kernel_rfl) rfl rfl rfl (by omega) hka (by omega)) (H.pick 5 [0,1,2] rfl) (BC 5 rfl (by kernel_rfl) (by kernel_rfl) (by kernel_rfl) rfl rfl rfl (Av rfl rfl (by kernel_rfl) (fun _ hx'=>(hx'.rd 1 rfl (fun h q=>q.rd)).at (j:=i) (u:=Iv_ e.1) (by simp[kL,he]))) (H.pick 5 [0,1,2] rfl) (AN [6,7,8] [2,0,0] [] (by exact (H.pick 5 [0,1,2] rfl)) rfl (by kernel_rfl) rfl (BC 9 rfl (by kernel_rfl) (by kernel_rfl) (by kernel_rfl) rfl rfl rfl (Aj rfl (z:=1) (j:=i) (r:=i) (by kernel_rfl) rfl rfl rfl (by omega) hva (by omega)) (H.pick 5 [0,1,2] rfl) (BC 10 rfl (by kernel_rfl) (by kernel_rfl) (by kernel_rfl) rfl rfl rfl (Av rfl rfl (by kernel_rfl) (fun _ hx'=>(hx'.rd 2 rfl (fun h q=>q.rd)).at (j:=i) (u:=Iv_ (e.2:Int)) (by simp[vL,he]))) (H.pick 5 [0,1,2] rfl) (AN [11] [] [] (by exact (H.pick 5 [0,1,2] rfl)) rfl (by kernel_rfl) rfl (Az [12] (by kernel_rfl) (by simp) (Ay (B7 rfl rfl rfl rfl (AJ H rfl (by kernel_rfl) A4 rfl (by decide) (by decide) (out:=[Iv_ e.1,Iv_ (e.2:Int)]) (by kernel_rfl)) ?_)))))))));rintro _ w ⟨b2,rfl,H⟩;replace H:=H.l6;refine Ap (H.pick 6 [1,2,3] rfl) (Az [13] (by kernel_rfl) (by simp) (Ay (B7 rfl rfl rfl rfl (A0 5 H rfl rfl (by kernel_rfl) A4 rfl rfl (H.rd 0 rfl (fun h q=>q.rd (by omega) (by omega) (by simp) rfl)) (by simp[Value.oneCell']) (by simp only[List.length_append,List.length_take];omega)) ?_)))
      rintro v3 w H';have H':Sep z (blk b2 [Iv_ e.1,Iv_ (e.2:Int)] 87::blk b1 [.bool true,.slice ka ((kL es).length) kc,.slice va ((vL es).length) vc] 54::grow 3 1 (.slice ka ((kL es).length) kc) ((kL es).length) ((kL es).map Iv_)::grow 3 1 (.slice va ((vL es).length) vc) ((vL es).length) ((vL es).map Iv_)::trA Tb pp mb n o none::grow 87 2 v3 ((l++es.take i).length+1) (Bj (l++es.take i)++[Iv_ e.1,Iv_ (e.2:Int)])::R) w:=H'
      have ev3:(Bj (l++es.take i)++[Iv_ e.1,Iv_ (e.2:Int)]:List Value)=Bj (l++es.take (i+1)):=(by rw[OH l he];exact (Iu _ [e]).symm)
      rw[ev3] at H';rw[show ((l++es.take i).length+1:Nat)=(l++es.take (i+1)).length from (by rw[OH l he];exact (List.length_append (bs:=[e])).symm)] at H';have H:=H'.l6;have sv3:=H.says 5 rfl (fun h q=>q.slc)
      refine Ap (H.pick 6 [1,2,3] rfl) (AN [14] [] [] (by exact (H.pick 6 [1,2,3] rfl)) rfl (by kernel_rfl) rfl (a_done (by kernel_rfl) (gn (Z1 10 [] [(i:Int)+1] rfl (by omega) ?_))));replace H:=H.d.f4.f4.f2.f4.f4;refine gf ?_;intro _ hF;refine ⟨⟨i+1,v3⟩,(hF.co rfl (by go_num) (hF.all rfl)),⟨H,?_⟩,?_⟩
      ·show i+1≤es.length;omega
      ·(dsimp only;omega)
   ·refine Zc 2 rfl (gx (Z1 12 [] [1] rfl (by omega) (Zr rfl ?_)));obtain rfl:i=es.length:=by simp only[List.length_map] at *;omega
    rw[List.take_length] at H;exact ⟨_,⟨u,rfl,rfl⟩,H.pick 5 [3,4] rfl⟩
set_option maxHeartbeats 2000000 in
theorem Yr (pp mb n:Nat) (o:TB) (h:Nat) (ih:∀ (ra:Nat) (rt:Bool) (lo hi:Int) (m:Nat) (L l:List E) (dp:Nat) (u:Value),Tr o.N h ra lo hi m L→(if rt then (if h=0 then 1 else 2) else 4)≤m→dp+h≤8→l.length+L.length≤1048576→Cn prog 42 [Pt_ pp,Iv_ (ra:Int),.bool rt,Iv_ lo,Iv_ hi,Iv_ (dp:Int),u] [trA Tb pp mb n o none,grow 87 2 u l.length (Bj l)] (fun v Γ=>∃ u2:Value,v= .tuple #[Iv_ (((h:Nat):Int)+1),u2]∧Γ=[trA Tb pp mb n o none,grow 87 2 u2 (l++L).length (Bj (l++L))])) (ra:Nat) (rt:Bool) (lo hi:Int) (m:Nat) (L l:List E) (dp:Nat) (u:Value) (hT:Tr o.N (h+1) ra lo hi m L) (hm:(if rt then (if (h+1)=0 then 1 else 2) else 4)≤m) (hdp:dp+(h+1)≤8) (hll:l.length+L.length≤1048576):Cn prog 42 [Pt_ pp,Iv_ (ra:Int),.bool rt,Iv_ lo,Iv_ hi,Iv_ (dp:Int),u] [trA Tb pp mb n o none,grow 87 2 u l.length (Bj l)] (fun v Γ=>∃ u2:Value,v= .tuple #[Iv_ (((h+1:Nat):Int)+1),u2]∧Γ=[trA Tb pp mb n o none,grow 87 2 u2 (l++L).length (Bj (l++L))]):=by
 intro z R w H;replace H:=H.l2;have su:=H.says 1 rfl (fun h q=>q.slc)
 have K:=H.says 0 rfl (fun h a=>trA.k a)
 have hn:=K.hn
 obtain ⟨es,hN,hme,hrg,hok,hsq⟩:=hT;have hck:CkN false (kL es) (vL es):=K.i.vok (by omega) hn.2 hN
 have hes8:es.length≤8:=hok.len
 have hr1:rt=true→2≤es.length:=fun q=>by rw[if_pos q,if_neg (by omega)] at hm;omega
 have hr4:rt=false→4≤es.length:=fun q=>by rw[if_neg (by rw[q];decide)] at hm;omega
 have hpos:0<es.length:=by rcases Bool.eq_false_or_eq_true rt with q|q;have:=hr1 q;omega;have:=hr4 q;omega
 refine Ad func42 rfl ntmps42 rfl (Zc 10 rfl (Ax rfl (call24 _) (FV pp mb n o none ra false es hN) H ?_));rintro _ w _ ⟨nk,nv,rfl,rfl⟩ H;replace H:=H.l4;have snk:=H.says 0 rfl (fun h q=>q.slc)
 obtain ⟨ka,kc,rfl⟩:=snk;have snv:=H.says 1 rfl (fun h q=>q.slc)
 obtain ⟨va,vc,rfl⟩:=snv;refine Za 3 [] H rfl ?_;intro b1 w H;refine Z4 7 [0,0,3] H rfl ?_;intro w H;refine z_E_ rfl (call85 _) (Rh _ _ _ (kL es) (vL es) _ _ (fun h q=>q.rd) (fun h q=>q.rd) hck) H.f2.f2 ?_;intro w H;refine Z0 18 [4,0] rfl (Af rfl (fun h1=> ?_) (fun h1=> ?_))
 ·(exfalso;omega)
 ·refine Zc 7 rfl (EC (fun a w=>∃ (ls:Int),Fr 140 [] [(19,Iv_ ls),(0,Pt_ pp),(1,Iv_ (ra:Int)),(2,.bool rt),(3,Iv_ lo),(4,Iv_ hi),(5,Iv_ (dp:Int)),(6,u),(14,Iv_ 0),(15,.slice none 0 0),(16,Pt_ b1),(17,Iv_ 0),(18,.bool true),(24,.tuple #[.agg #[.bool false,.slice ka ((kL es).length) kc,.slice va ((vL es).length) vc],Iv_ 0]),(25,Pt_ pp),(26,Iv_ (ra:Int)),(27,.tuple #[.agg #[.bool false,.slice ka ((kL es).length) kc,.slice va ((vL es).length) vc],Iv_ 0]),(28,.agg #[.bool false,.slice ka ((kL es).length) kc,.slice va ((vL es).length) vc]),(29,Iv_ 0),(30,.agg #[.bool false,.slice ka ((kL es).length) kc,.slice va ((vL es).length) vc]),(31,.bool true),(32,Iv_ 0),(33,.bool false),(34,.bool false),(35,.bool true),(36,.bool false),(37,.bool false),(38,.bool false),(39,Iv_ (dp:Int)),(40,.bool (decide ((8:Int)<(dp:Int)))),(41,.bool (decide ((8:Int)<(dp:Int))))] a∧Sep z (grow 3 1 (.slice ka ((kL es).length) kc) ((kL es).length) ((kL es).map Iv_)::grow 3 1 (.slice va ((vL es).length) vc) ((vL es).length) ((vL es).map Iv_)::blk b1 [.bool false,.slice ka ((kL es).length) kc,.slice va ((vL es).length) vc] 54::trA Tb pp mb n o none::grow 87 2 u l.length (Bj l)::R) w∧(ls≤(es.length:Int))) ?_ ?_)
  ·refine Zc 5 rfl (DW rfl (fun h2=> ?_) (fun h2=> ?_))
   ·refine Z2 13 [0,2,0] H rfl ?_;exact gf fun _ hF=>⟨2,(hF.all rfl),H,(by first|(have q:=hr1 (by assumption);omega)|(have q:=hr4 (by assumption);omega))⟩
   ·refine Zc 1 rfl ?_;exact gf fun _ hF=>⟨4,(hF.all rfl),H,(by first|(have q:=hr1 (by assumption);omega)|(have q:=hr4 (by assumption);omega))⟩
  rintro a w ⟨ls,hF,H,hI⟩;revert a;refine Z2 10 [1,2,0,0] H rfl (Af rfl (fun h3=> ?_) (fun h3=> ?_))
  ·(exfalso;simp only[List.length_map] at *;omega)
  ·refine Zc 14 rfl ?_;refine AG (σ:=Nat×Value×List E×List E) (fun ⟨i,u,L0,L2⟩=>[(21,Iv_ (i:Int)),(20,Iv_ (if i=0 then 0 else (h:Int)+1)),(6,u),(0,Pt_ pp),(3,Iv_ lo),(4,Iv_ hi),(5,Iv_ (dp:Int)),(16,Pt_ b1)])
     (fun ⟨i,u,L0,L2⟩ w=>Sep z (grow 3 1 (.slice ka ((kL es).length) kc) ((kL es).length) ((kL es).map Iv_)::grow 3 1 (.slice va ((vL es).length) vc) ((vL es).length) ((vL es).map Iv_)::blk b1 [.bool false,.slice ka ((kL es).length) kc,.slice va ((vL es).length) vc] 54::trA Tb pp mb n o none::grow 87 2 u ((l++L0).length) (Bj (l++L0))::R) w∧(i≤es.length∧L=L0++L2∧Sq (fun c a b L=>Tr o.N h c a b 4 L) (es.drop i) hi L2)) (fun ⟨i,u,L0,L2⟩=>es.length - i) ⟨0,u,[],L⟩
     (fun _ hF=>(hF.co rfl (by go_num) (hF.co rfl (congrArg Iv_ (by simp)) (hF.all rfl)))) ⟨(by simpa using H),⟨Nat.zero_le _,rfl,hsq⟩⟩ ?_
   clear H;rintro ⟨i,u,L0,L2⟩ w ⟨H',hI⟩;dsimp only at hI H' ⊢
   have H:=H'.l5;have su:=H.says 4 rfl (fun h q=>q.slc)
   obtain ⟨hil0,hLe,hsi⟩:=hI;have hkl:(kL es).length=es.length:=by simp
   have hvl:(vL es).length=es.length:=by simp
   refine Z2 10 [1,2,0,0] H rfl (Af rfl (fun h4=> ?_) (fun h4=> ?_))
   ·refine Zc 6 rfl ?_;have hil:i<es.length:=by simp only[List.length_map] at *;omega
    obtain ⟨e,he⟩:∃ e,es[i]? =some e:=⟨_,List.getElem?_eq_getElem hil⟩;have hem:=List.mem_of_getElem? he
    have her:=hrg e hem
    have hka:=(H.rd 0 rfl (fun h q=>q.rd)).at (j:=i) (u:=Iv_ e.1) (by simp[kL,he])
    have hva:=(H.rd 1 rfl (fun h q=>q.rd)).at (j:=i) (u:=Iv_ (e.2:Int)) (by simp[vL,he])
    obtain ⟨Lc,L3,hL2,hTc,hs3⟩:=Y7 he hsi;refine Z2 4 [1,2,0] H rfl (Ab rfl (Aj rfl (z:=1) (j:=i) (r:=i) (by kernel_rfl) rfl rfl rfl (by omega) hka (by omega)) (Ab rfl (Av rfl rfl (by kernel_rfl) (Aq hka)) (Z0 3 [0] rfl (Al 66 rfl (fun h5=> ?_) (fun h5=> ?_)))))
    ·(exfalso;omega)
    ·refine Z2 3 [1,2,0] H rfl (Ab rfl (Aj rfl (z:=1) (j:=i) (r:=i) (by kernel_rfl) rfl rfl rfl (by omega) hka (by omega)) (Ab rfl (Av rfl rfl (by kernel_rfl) (Aq hka)) (Z0 5 [0] rfl (Af rfl (fun h6=> ?_) (fun h6=> ?_)))))
     ·(exfalso;omega)
     ·refine Z2 18 [0,2,0] H rfl (EC (fun a w=>Fr 140 [] [(22,Iv_ (nx (es.drop (i+1)) hi)),(0,Pt_ pp),(3,Iv_ lo),(4,Iv_ hi),(5,Iv_ (dp:Int)),(6,u),(16,Pt_ b1),(20,Iv_ (if i=0 then 0 else (h:Int)+1)),(21,Iv_ (i:Int)),(52,Iv_ (i:Int)),(53,.pointer (some ⟨b1,1,none⟩)),(54,.slice ka ((kL es).length) kc),(55,Iv_ (((kL es).length:Nat):Int)),(56,.bool (decide ((i:Int)<(((kL es).length:Nat):Int)))),(59,.pointer (some ⟨b1,1,none⟩)),(60,.slice ka ((kL es).length) kc),(61,Iv_ (i:Int)),(62,Fz ka i),(63,Iv_ e.1),(64,Iv_ lo),(65,.bool (decide ((e.1:Int)<lo))),(66,.bool false),(67,.pointer (some ⟨b1,1,none⟩)),(68,.slice ka ((kL es).length) kc),(69,Iv_ (i:Int)),(70,Fz ka i),(71,Iv_ e.1),(72,Iv_ hi),(73,.bool (decide ((hi:Int)≤e.1))),(74,.bool (decide ((hi:Int)≤e.1))),(76,Pt_ b1),(77,.bool false),(92,Iv_ hi)] a∧Sep z (grow 3 1 (.slice ka ((kL es).length) kc) ((kL es).length) ((kL es).map Iv_)::grow 3 1 (.slice va ((vL es).length) vc) ((vL es).length) ((vL es).map Iv_)::blk b1 [.bool false,.slice ka ((kL es).length) kc,.slice va ((vL es).length) vc] 54::trA Tb pp mb n o none::grow 87 2 u ((l++L0).length) (Bj (l++L0))::R) w) ?_ ?_)
      ·refine Z3 10 [1,2,0,0] [(i:Int)+1] H rfl (by omega) (Af rfl (fun h7=> ?_) (fun h7=> ?_))
       ·have hnx:=(H.rd 0 rfl (fun h q=>q.rd)).at (j:=i+1) (u:=Iv_ (nx (es.drop (i+1)) hi)) (Y8 hi (by omega))
        refine Z3 5 [1,2,0] [(i:Int)+1] H rfl (by omega) (Ab rfl (Aj rfl (z:=1) (j:=(i+1)) (r:=(i+1)) (by kernel_rfl) rfl rfl (by omega) (by omega) hka (by omega)) (Ab rfl (Av rfl rfl (by kernel_rfl) (Aq hnx)) (Zc 2 rfl ?_)));exact gf fun _ hF=>⟨(hF.all rfl),H⟩
       ·refine Zc 1 rfl ?_;exact gf fun _ hF=>⟨(hF.co rfl (congrArg Iv_ (by rw[List.drop_of_length_le (by omega)];rfl)) (hF.all rfl)),H⟩
      rintro a w ⟨hF,H⟩;revert a;refine Zc 6 rfl ?_;replace H:=H.f1.f1.f2;refine AI (Sep z (blk b1 [.bool false,.slice ka ((kL es).length) kc,.slice va ((vL es).length) vc] 54::grow 3 1 (.slice ka ((kL es).length) kc) ((kL es).length) ((kL es).map Iv_)::grow 3 1 (.slice va ((vL es).length) vc) ((vL es).length) ((vL es).map Iv_)::R)) 21 rfl (by kernel_rfl) (A9 H fun w H'=> ?_)
      have H:=H'.l5;refine AN [0,1,2,3] [2,0,0] [] (by exact (H.pick 5 [0,1,2] rfl)) rfl (by kernel_rfl) rfl (BC 4 rfl (by kernel_rfl) (by kernel_rfl) (by kernel_rfl) rfl rfl rfl (Aj rfl (z:=1) (j:=i) (r:=i) (by kernel_rfl) rfl rfl rfl (by omega) hva (by omega)) (H.pick 5 [0,1,2] rfl) (BC 5 rfl (by kernel_rfl) (by kernel_rfl) (by kernel_rfl) rfl rfl rfl (Av rfl rfl (by kernel_rfl) (fun _ hx'=>(hx'.rd 2 rfl (fun h q=>q.rd)).at (j:=i) (u:=Iv_ (e.2:Int)) (by simp[vL,he]))) (H.pick 5 [0,1,2] rfl) (AN [6,7,8] [1,0,0] [] (by exact (H.pick 5 [0,1,2] rfl)) rfl (by kernel_rfl) rfl (BC 9 rfl (by kernel_rfl) (by kernel_rfl) (by kernel_rfl) rfl rfl rfl (Aj rfl (z:=1) (j:=i) (r:=i) (by kernel_rfl) rfl rfl rfl (by omega) hka (by omega)) (H.pick 5 [0,1,2] rfl) (BC 10 rfl (by kernel_rfl) (by kernel_rfl) (by kernel_rfl) rfl rfl rfl (Av rfl rfl (by kernel_rfl) (fun _ hx'=>(hx'.rd 1 rfl (fun h q=>q.rd)).at (j:=i) (u:=Iv_ e.1) (by simp[kL,he]))) (H.pick 5 [0,1,2] rfl) (Hl [11,12,13] [] [(dp:Int)+1] (by exact (H.pick 5 [0,1,2] rfl)) rfl (by kernel_rfl) (by omega) rfl (AC 119 (v:=Iv_ ((dp+1:Nat):Int)) rfl (congrArg Iv_ (by omega)) (AN [14] [] [] (by exact (H.pick 5 [0,1,2] rfl)) rfl (by kernel_rfl) rfl (Az [15] (by kernel_rfl) (by simp) (Ay (BH rfl rfl rfl rfl rfl rfl (fun w=>call42 _ w) (ih e.2 false e.1 (nx (es.drop (i+1)) hi) 4 Lc (l++L0) (dp+1) u hTc (Nat.le_refl _) (by omega) (by rw[hLe,hL2] at hll;simp only[List.length_append] at hll ⊢;omega)) H.f4.f4 rfl ?_)))))))))))
      rintro _ w _ ⟨u2,rfl,rfl⟩ H;replace H:=H.l5;have su2:=H.says 1 rfl (fun h q=>q.slc)
      refine Ap (H.pick 5 [2,3,4] rfl) (AN [16,17,18,19,20] [] [] (by exact (H.pick 5 [2,3,4] rfl)) rfl (by kernel_rfl) rfl (a_done (by kernel_rfl) (gn (Z0 7 [0] rfl (Al 126 rfl (fun h8=> ?_) (fun h8=> ?_))))))
      ·(exfalso;omega)
      ·refine Z0 3 [0] rfl (Al 129 rfl (fun h9=> ?_) (fun h9=> ?_))
       ·refine Z0 7 [0] rfl (Af rfl (fun h10=> ?_) (fun h10=> ?_))
        ·(exfalso;apply h10;rw[if_neg (by omega)])
        ·refine Z1 13 [] [(i:Int)+1] rfl (by omega) ?_;replace H:=H.f1.f1.f2.f4.f4;refine gf ?_;intro _ hF;refine ⟨⟨i+1,u2,L0++Lc,L3⟩,(hF.co rfl (by go_num) (hF.co rfl (congrArg Iv_ (by rw[if_neg (by omega)])) (hF.all rfl))),⟨(by rw[←List.append_assoc];exact H),?_⟩,?_⟩
         ·exact ⟨by show i+1≤es.length;omega,by show L=L0++Lc++L3;rw[hLe,hL2,List.append_assoc],hs3⟩
         ·(dsimp only;omega)
       ·refine Z1 21 [] [(i:Int)+1] rfl (by omega) ?_;replace H:=H.f1.f1.f2.f4.f4;refine gf ?_;intro _ hF;refine ⟨⟨i+1,u2,L0++Lc,L3⟩,(hF.co rfl (by go_num) (hF.co rfl (congrArg Iv_ (by rw[if_neg (by omega)])) (hF.all rfl))),⟨(by rw[←List.append_assoc];exact H),?_⟩,?_⟩
        ·exact ⟨by show i+1≤es.length;omega,by show L=L0++Lc++L3;rw[hLe,hL2,List.append_assoc],hs3⟩
        ·(dsimp only;omega)
   ·refine Zc 2 rfl (gx (Zc 3 rfl ?_));obtain rfl:i=es.length:=by omega
    rw[List.drop_length] at hsi;have hL2:L2=[]:=hsi
    rw[hL2,List.append_nil] at hLe;rw[←hLe] at H;refine AC 20 (v:=Iv_ ((h:Int)+1)) rfl (congrArg Iv_ (by rw[if_neg (by omega)])) (Z1 9 [] [(h:Int)+2] rfl (by omega) (Zr rfl ?_));exact ⟨_,⟨u,congrArg (fun q:Int=>Value.tuple #[Iv_ q,u]) (by omega),rfl⟩,H.pick 5 [3,4] rfl⟩
end
section
open Go.RowKit
variable {Tb:Ae}
theorem Y9 (pp mb n:Nat) (o:TB) (h:Nat):∀ (ra:Nat) (rt:Bool) (lo hi:Int) (m:Nat) (L l:List E) (dp:Nat) (u:Value),Tr o.N h ra lo hi m L→(if rt then (if h=0 then 1 else 2) else 4)≤m→dp+h≤8→l.length+L.length≤1048576→Cn prog 42 [Pt_ pp,Iv_ (ra:Int),.bool rt,Iv_ lo,Iv_ hi,Iv_ (dp:Int),u] [trA Tb pp mb n o none,grow 87 2 u l.length (Bj l)] (fun v Γ=>∃ u2:Value,v= .tuple #[Iv_ (((h:Nat):Int)+1),u2]∧Γ=[trA Tb pp mb n o none,grow 87 2 u2 (l++L).length (Bj (l++L))]):=by
 induction h with
 | zero=>exact fun ra rt lo hi m L l dp u=>Yq pp mb n o ra rt lo hi m L l dp u
 | succ h ih=>exact fun ra rt lo hi m L l dp u=>Yr pp mb n o h ih ra rt lo hi m L l dp u
set_option maxHeartbeats 2000000 in
theorem Ys (pt pm pp mb n:Nat) (o:TB) (r0 ra:Nat) (L:List E) (hR:Root o.N ra L) (hn:n≤511) (hll:L.length≤1048576):Cn prog 13 [Pt_ pt,Iv_ (ra:Int),Pt_ pm] [blk pt [Pt_ pp,Iv_ (r0:Int),Pt_ pm] 32,mpA pm L,trA Tb pp mb n o none] (fun v Γ=>v= .bool true∧Γ=[blk pt [Pt_ pp,Iv_ (r0:Int),Pt_ pm] 32,mpA pm L,trA Tb pp mb n o none]):=by
 intro z R w H;replace H:=H.l3;have K:=H.says 2 rfl (fun h a=>trA.k a)
 have hRL:ra=0→L=[]:=fun q=>by rcases hR with ⟨_,e⟩|⟨e,_⟩;exact e;exact absurd q e
 refine Ad func13 rfl ntmps13 rfl (Zc 10 rfl (EC (fun a w=>∃ (u:Value),Fr 49 [] [(7,u),(0,Pt_ pt),(1,Iv_ (ra:Int)),(2,Pt_ pm)] a∧Sep z (grow 87 2 u L.length (Bj L)::blk pt [Pt_ pp,Iv_ (r0:Int),Pt_ pm] 32::mpA pm L::trA Tb pp mb n o none::R) w) ?_ ?_))
 ·refine Z0 6 [0] rfl (Af rfl (fun h1=> ?_) (fun h1=> ?_))
  ·refine Zc 6 rfl ?_;obtain ⟨h,hT,hh⟩:=hR.low K.i (show ra≠0 by omega) hn;refine Z2 6 [0,0,0] H rfl ?_;replace H:=(H.nilg 87 2).l4
   refine Ax rfl (call42 _) (Y9 pp mb n o h ra true 0 1048576 _ L [] 0 _ hT (Nat.le_refl _) (by omega) (by simp only[List.length_nil];omega)) H.f3 ?_;rintro _ w _ ⟨u2,rfl,rfl⟩ H;replace H:=H.l4;have su2:=H.says 1 rfl (fun h q=>q.slc)
   refine Z0 13 [0] rfl (Af rfl (fun h2=> ?_) (fun h2=> ?_))
   ·(exfalso;omega)
   ·refine Zc 1 rfl ?_;replace H:=H.f3.f3.f3;exact gf fun _ hF=>⟨u2,(hF.all rfl),H⟩
  ·refine Zc 1 rfl ?_;replace H:=(H.nilg 87 2).l4
   have hL0:L=[]:=hRL (by omega)
   exact gf fun _ hF=>⟨(.slice none 0 0),(hF.all rfl),(by rw[show L.length=0 by rw[hL0];rfl,show Bj L=[] by rw[hL0];rfl];exact H)⟩
 rintro a w ⟨u,hF,H⟩;revert a;refine Zc 2 rfl ?_;obtain ⟨v_,H⟩:=(H.pick 4 [2,0,1,3] rfl).mp;replace H:=H.l5;obtain ⟨ao,oc,rfl⟩:=H.says 1 rfl (fun h q=>q.rd.slc);have hcp_ao:=H.says 1 rfl (fun h q=>q.rd.slcapZ)
 have H:Sep z (blk pm [.slice ao L.length oc] 30::grow 87 2 (.slice ao L.length oc) L.length (Bj L)::grow 87 2 u L.length (Bj L)::blk pt [Pt_ pp,Iv_ (r0:Int),Pt_ pm] 32::trA Tb pp mb n o none::R) w:=H
 have su:=H.says 2 rfl (fun h q=>q.rd.slc)
 obtain ⟨ua,uc,rfl⟩:=su;refine Z2 11 [0,0,0,0] H rfl (Af rfl (fun h3=> ?_) (fun h3=> ?_))
 ·(exfalso;omega)
 ·refine Zc 9 rfl ?_;refine AG (σ:=Nat) (fun i=>[(9,Iv_ (i:Int)),(2,Pt_ pm),(7,.slice ua L.length uc)])
    (fun i w=>Sep z (blk pm [.slice ao L.length oc] 30::grow 87 2 (.slice ao L.length oc) L.length (Bj L)::grow 87 2 (.slice ua L.length uc) L.length (Bj L)::blk pt [Pt_ pp,Iv_ (r0:Int),Pt_ pm] 32::trA Tb pp mb n o none::R) w∧(i≤L.length)) (fun i=>L.length - i) 0
    (fun _ hF=>(hF.co rfl (by go_num) (hF.all rfl))) ⟨H,Nat.zero_le _⟩ ?_
  clear H;rintro i w ⟨H',hI⟩;have H:=H'.l5;have hil:=hI;clear hI
  refine Z0 9 [0] rfl (Af rfl (fun h4=> ?_) (fun h4=> ?_))
  ·refine Zc 5 rfl ?_;obtain ⟨e,he⟩:∃ e,L[i]? =some e:=⟨_,List.getElem?_eq_getElem (by omega)⟩;have hu0:=(H.rd 2 rfl (fun h q=>q.rd)).at (Cw he).1
   have hu1:=(H.rd 2 rfl (fun h q=>q.rd)).at (Cw he).2
   have hm0:=(H.rd 1 rfl (fun h q=>q.rd)).at (Cw he).1
   have hm1:=(H.rd 1 rfl (fun h q=>q.rd)).at (Cw he).2
   refine A8 (Sep z _) (by kernel_rfl) (by kernel_rfl) H.drew (BG 2 [] rfl (by kernel_rfl) (AQ rfl rfl rfl (Aj rfl (z:=2) (j:=i) (r:=i * 2) (by kernel_rfl) rfl rfl rfl (by omega) hu0 (by omega)) (AQ rfl rfl rfl (Ch rfl rfl (vs:=[Iv_ e.1,Iv_ (e.2:Int)]) (by kernel_rfl) (by simp) (fun _ hx' k u hk=>by rcases k with _|_|k<;>simp at hk<;>subst hk<;>first|exact (hx'.rd 2 rfl (fun h q=>q.rd)).at (Cw he).1|exact (hx'.rd 2 rfl (fun h q=>q.rd)).at (Cw he).2)) (Dk 5 [0,0] (fun _ hx=>(Bk (hx.blk 0 rfl) Bq)) rfl (by kernel_rfl) rfl (AQ rfl rfl rfl (Aj rfl (z:=2) (j:=i) (r:=i * 2) (by kernel_rfl) rfl rfl rfl (by omega) hm0 (by omega)) (AQ rfl rfl rfl (Ch rfl rfl (vs:=[Iv_ e.1,Iv_ (e.2:Int)]) (by kernel_rfl) (by simp) (fun _ hx' k u hk=>by rcases k with _|_|k<;>simp at hk<;>subst hk<;>first|exact (hx'.rd 1 rfl (fun h q=>q.rd)).at (Cw he).1|exact (hx'.rd 1 rfl (fun h q=>q.rd)).at (Cw he).2)) (AQ rfl rfl rfl (Q0 (cs:= #[Iv_ e.1,Iv_ (e.2:Int)]) rfl (by kernel_rfl) (by kernel_rfl) (by kernel_rfl) rfl rfl) (Bi (fun w H'=> ?_)))))))));have H:=H'.l5;refine gn (Z1 10 [] [(i:Int)+1] rfl (by omega) (gf ?_));intro _ hF;refine ⟨(i+1),(hF.co rfl (by go_num) (hF.all rfl)),⟨H,?_⟩,?_⟩
   ·omega
   ·omega
  ·refine Zc 2 rfl (gx (Zc 8 rfl (Zr rfl ?_)));exact ⟨_,⟨rfl,rfl⟩,((H.pick 5 [0,1,3,4] rfl).toMp).pick 3 [1,0,2] rfl⟩
end
section
open Go.RowKit
variable {Tb:Ae}
variable {z w:World} {Γ:List Ae} {pp mb n f:Nat} {o:TB} {T:TT} {N:Hm} {C:Nat→Nat} {R:List Nat}
theorem Tr.kid {h r:Nat} {lo hi:Int} {m:Nat} {L:List E} (t:Tr N h r lo hi m L) {d:Nd} (hN:N r=some (.nd d)) {p:Nat} (hp:p∈vals d.es):(h=0∧∃ b,N p=some (.dt b))∨∃ h' lo' hi' L',h=h'+1∧Tr N h' p lo' hi' 4 L':=by
 obtain ⟨es,h1,_,_,_,hB⟩:=Tr.iff.1 t
 rw[h1] at hN;cases hN
 obtain ⟨e,he,rfl⟩:=List.mem_map.1 hp
 cases h with
 | zero=>exact .inl ⟨rfl,hB.2 e he⟩
 | succ h=>
  obtain ⟨X,Y,rfl⟩:=List.append_of_mem he
  obtain ⟨_,Lc,_,_,_,h2,_⟩:=Sq.at hB
  exact .inr ⟨h,_,_,Lc,rfl,h2⟩
theorem Tr.low1 (I:TInv n f N C R) {h r:Nat} {lo hi:Int} {m:Nat} {L:List E} (t:Tr N h r lo hi m L) (hn:n≤1024):h≤6:=by
 rcases Nat.eq_zero_or_pos h with e|hh
 ·omega
 obtain ⟨es,h1,h2,h3,h4,h5⟩:=Tr.iff.1 t
 have hne:es≠[]:=h4.ne (by simp;omega)
 have hl:1≤es.length:=by cases es with|nil=>exact absurd rfl hne|cons=>simp
 have t1:Tr N h r lo hi 1 L:=Tr.iff.2 ⟨es,h1,hl,h3,h4,h5⟩
 obtain ⟨a1,a2,a3⟩:=JL t1 (Nat.le_refl _)
 have hs:=t1.srt.1
 rw[←a1] at hs
 have hd:=He hs (fun p hp=>(a2 p hp).1)
 have hl:=FW hd (fun p hp=>by obtain ⟨d,hd⟩:=(a2 p hp).2;exact (I.nin p _ hd).2.1)
 rcases Nat.lt_or_ge h 7 with q|q
 ·omega
 ·exfalso
  rw[if_neg (by omega)] at a3
  have:4 ^ 6≤4 ^ (h - 1):=Nat.pow_le_pow_right (by omega) (by omega)
  simp at a3
  omega
inductive Rch (N:Hm) (r:Nat):Nat→Prop where
 | refl:Rch N r r
 | step {q p:Nat} {d:Nd} :Rch N r q→N q=some (.nd d)→p∈vals d.es→Rch N r p
theorem TInv.up (I:TInv n f N C R) {p:Nat} (h1:f≤p) (h2:p<n) (hC:1≤C p) (hno:¬ ∃ r∈R,Rch N r p):∃ q d,N q=some (.nd d)∧p∈vals d.es∧¬ ∃ r∈R,Rch N r q:=by
 have hc:=I.cnt p h1 h2
 have hR:p∉R:=fun h=>hno ⟨p,h,.refl⟩
 rw[List.count_eq_zero_of_not_mem hR] at hc
 obtain ⟨q,hq,he⟩:=MX N p n (by omega)
 cases hN:N q with
 | none=>rw[hN] at he;simp[Cf] at he
 | some c=>
  cases c with
  | dt b=>rw[hN] at he;simp[Cf] at he
  | nd d=>
   rw[hN] at he
   have hp:=Ha.1 he
   exact ⟨q,d,hN,hp,fun ⟨r,hr,hq⟩=>hno ⟨r,hr,hq.step hN hp⟩⟩
theorem TInv.reach (I:TInv n f N C R) (hn:n≤1024) {p:Nat} (h1:f≤p) (h2:p<n) (hC:1≤C p):∃ r∈R,Rch N r p:=by
 refine Classical.byContradiction fun hno=> ?_
 have key:∀ j,∃ q h lo hi m L,j≤h∧Tr N h q lo hi m L∧¬ ∃ r∈R,Rch N r q:=fun j=>by
  induction j with
  | zero=>
   obtain ⟨q,d,hq,_,hn⟩:=I.up h1 h2 hC hno
   obtain ⟨h,lo,hi,m,L,t⟩:=I.hg q d hq
   exact ⟨q,h,lo,hi,m,L,Nat.zero_le _,t,hn⟩
  | succ j ih=>
   obtain ⟨q,h,lo,hi,m,L,hj,t,hn⟩:=ih
   obtain ⟨d0,hq0⟩:=t.node
   obtain ⟨a,b,c⟩:=I.nin q _ hq0
   obtain ⟨q',d,hq,hp,hn'⟩:=I.up a b c hn
   obtain ⟨h',lo',hi',m',L',t'⟩:=I.hg q' d hq
   refine ⟨q',h',lo',hi',m',L',?_,t',hn'⟩
   rcases t'.kid hq hp with ⟨_,b,hb⟩|⟨h'',_,_,_,e,t''⟩
   ·rw[hq0] at hb;cases hb
   ·have:=(t.uniq t'').1;omega
 obtain ⟨q,h,lo,hi,m,L,hj,t,_⟩:=key 7
 have:=t.low1 I hn
 omega
theorem TrK.empty (K:TrK n o none) (hR:o.R=[]):frC n o.C=frC n (C1 (manyN n+1)):=by
 have hn:=K.hn
 funext p
 have I:TInv n (manyN n+1) o.N o.C []:=by have:=K.i;rw[show Cb o none=[] from hR] at this;exact this
 have h1:o.C p=C1 (manyN n+1) p∨n≤p:=by
  rcases Nat.lt_or_ge p n with q|q
  ·left
   unfold C1
   rcases Nat.lt_or_ge p (manyN n+1) with r|r
   ·rw[if_pos r];exact K.one p (by omega)
   ·rw[if_neg (by omega)]
    rcases Nat.eq_zero_or_pos (o.C p) with e|e
    ·exact e
    ·obtain ⟨r,hr,_⟩:=I.reach hn.2 r q e
     cases hr
  ·exact .inr q
 rcases h1 with e|e
 ·simp only[frC,e]
 ·simp only[frC]
  rw[decide_eq_false (by omega),decide_eq_false (by omega)]
theorem Root.nil {a:Nat} (h:Root N a []):a=0:=by
 rcases h with ⟨e,_⟩|⟨_,h,t⟩
 ·exact e
 ·exact absurd rfl (t.ne (by split<;>omega))
theorem Yt (pp mb n:Nat) (o:TB) (T:TT) (a:Nat) (key:Int) (L:List E) (hR:Root (DQ o T) a L):Cn prog 14 [Pt_ pp,Iv_ (a:Int),Iv_ key] [trA Tb pp mb n o T] (fun v Γ=>v= .tuple #[Iv_ (getE key L:Int),Iv_ 0]∧Γ=[trA Tb pp mb n o T]):=by
 intro z R' w H
 have K:=H.says 0 rfl (fun h a=>trA.k a)
 have hp:∀ e∈L,1≤e.2:=fun e he=>(FZ K.i (by omega) hR.data e he).1
 have hg:=Hh (key:=key) hp
 have hno:¬ Cy key L→getE key L=0:=fun q=>Classical.byContradiction fun r=>q (hg.1.1 r)
 by_cases ha:a=0
 ·subst ha
  have hL:L=[]:=by rcases hR with ⟨_,e⟩|⟨e,_⟩;exact e;exact absurd rfl e
  subst hL
  refine Ret.mono (Cn.at (OC pp key) H 0 [] rfl rfl) ?_
  rintro v w' ⟨Γ',⟨rfl,rfl⟩,H'⟩
  exact ⟨_,⟨rfl,rfl⟩,H'⟩
 ·rcases hR with ⟨e,_⟩|⟨_,h,t⟩
  ·exact absurd e ha
  refine Ret.mono (Cn.at (OB pp mb n o T key L h a _ _ _ t) H 1 [0] rfl rfl) ?_
  rintro v w' ⟨Γ',⟨(⟨v0,hv,rfl⟩|⟨hv,rfl⟩),rfl⟩,H'⟩
  ·exact ⟨_,⟨by rw[hg.2 v0 hv t.srt.1],rfl⟩,H'⟩
  ·exact ⟨_,⟨by rw[hno hv];rfl,rfl⟩,H'⟩
structure DoR (n:Nat) (o o2:TB) (a a2:Nat) (L L2:List E) (Q:List Nat) (k:Int) (dr:Bool) (mb m2:Nat):Prop where
 m:mb≤m2∧m2≤mb+2
 I:LwI n o2 a2 L2 Q
 kp:Kp o.N o2.N Q
 f:cnt (frC n o.C) 0 1024≤cnt (frC n o2.C) 0 1024+15
 d:(cnt (frC n o.C) 0 1024≤12∧L2=L∧a2=a)∨(dr=true∧L2=AV (CP k) L)∨(dr=false∧∃ val,L2=putE (CP k) val L)
theorem HN (pt pm pp mb n:Nat) (o:TB) (a:Nat) (L:List E) (Q:List Nat) (k:Int) (dr:Bool) (fl:Int) (hI:LwI n o a L Q) (hmb:mb≤1000000000) (hk: -9223372036854775808≤k∧k≤9223372036854775807):
  Cn prog 12 [Pt_ pt,.agg #[Iv_ k,.bool dr,Iv_ fl]] [blk pt [Pt_ pp,Iv_ (a:Int),Pt_ pm] 32,mpA pm L,trA Tb pp mb n o none] (fun v Γ=>∃ (a2:Nat) (L2:List E) (o2:TB) (m2:Nat),DoR n o o2 a a2 L L2 Q k dr mb m2∧v= .bool true∧Γ=[blk pt [Pt_ pp,Iv_ (a2:Int),Pt_ pm] 32,mpA pm L2,trA Tb pp m2 n o2 none]):=by
 intro z R' w H
 cases dr with
 | true=>
  refine Ret.mono (Ww pt pm pp mb n o a L Q k fl hI hmb hk z R' w H) ?_
  rintro v w' ⟨Γ',⟨a2,L2,o2,m2,⟨h1,h2,h3,h4⟩,h5,rfl,rfl⟩,H'⟩
  exact ⟨_,⟨a2,L2,o2,m2,⟨h1,h2,h3,h4,h5.imp id fun q=> .inl ⟨rfl,q⟩⟩,rfl,rfl⟩,H'⟩
 | false=>
  refine Ret.mono (Wx pt pm pp mb n o a L Q k fl hI hmb hk z R' w H) ?_
  rintro v w' ⟨Γ',⟨a2,L2,o2,m2,⟨h1,h2,h3,h4⟩,h5,rfl,rfl⟩,H'⟩
  exact ⟨_,⟨a2,L2,o2,m2,⟨h1,h2,h3,h4,h5.imp id fun q=> .inr ⟨rfl,q⟩⟩,rfl,rfl⟩,H'⟩
theorem Sep.trTab (H:Sep z (trA Tb pp mb n o none::Γ) w):GY Tb∧Sep z (Tb::Γ) w:=by
 obtain ⟨M0,_,H⟩:=H.tr0
 obtain ⟨X,hX,H⟩:=H.po
 refine ⟨hX.tab.2▸hX.tab.1,?_⟩
 have h:=H.pick 7 [6] rfl
 rw[←hX.tab.2];exact h
end
section
open Go.RowKit
variable {Tb:Ae}
theorem Uj:cnt (frC 32 (Gc 32).C) 0 1024=30:=by decide+kernel
theorem Uk {n:Nat} (hn:n≤511):LwI n (Gc n) 0 [] []:=⟨hn,by simp,.inl ⟨rfl,rfl⟩,by simp[vals],rfl⟩
theorem Yu (pp mb n:Nat) (o:TB) (r key val:Int):Cn prog 17 [Pt_ pp,Iv_ r,Iv_ key,Iv_ val] [trA Tb pp mb n o none] (fun v Γ=>v= .tuple #[Iv_ 0,Iv_ 18]∧Γ=[trA Tb pp mb n o none]):=by
 intro z R w H;replace H:=H.l1;refine Ad func17 rfl ntmps17 rfl (Zc 10 rfl (z_E_ rfl (call45 _) (Wp _ _ _ _) H ?_));intro w H;refine Z0 18 [3] rfl (Zr rfl ?_);exact ⟨_,⟨rfl,rfl⟩,H⟩
set_option maxHeartbeats 2000000 in
theorem TG (Tb:Ae) (hT:GY Tb):Cn prog 16 [] [Tb] (fun v Γ=>v= .bool true∧Γ=[Tb]):=by
 intro z R w H;replace H:=H.l1;refine Ad func16 rfl ntmps16 rfl (Zc 7 rfl (Ax rfl (call10 _) (Na 32 (by omega) Tb hT) H ?_));rintro _ w _ ⟨pp,rfl,rfl⟩ H;refine Za 17 [] H rfl ?_;intro b1 w H;refine Za 1 [] H rfl ?_;intro b2 w H;refine Zc 4 rfl ?_;replace H:=(H.nilg 87 2).l4
 have H':Sep z (mpA b1 ([])::blk b2 [Pt_ pp,Iv_ 0,Pt_ b1] 32::trA Tb pp 6 32 (Gc 32) none::R) w:=(H.pick 4 [2,0,1,3] rfl).toMp (L:=[])
 have H:=H'.l3;refine Zc 2 rfl (z_E_ rfl (call22 _) (FT _ _ _ _ none) H.f2 ?_);intro w H;replace H:=H.l3;refine AC 19 (v:=Iv_ (cnt (frC 32 (Gc 32).C) 0 1024:Int)) rfl rfl (Zc 7 rfl (Ax rfl (call12 _) (HN _ _ _ 6 32 (Gc 32) 0 ([]) [] 5 false 1 (Uk (by omega)) (by omega) (by omega)) H.f1.f2 ?_));rintro _ w _ ⟨a1,L1,o1,m1,hD1,rfl,rfl⟩ H;replace H:=H.l3;obtain ⟨val,hL1⟩:∃ val,L1=putE (CP 5) val []:=by rcases hD1.d with ⟨q,_⟩|⟨q,_⟩|⟨_,q⟩;(exfalso;rw[Uj] at q;omega);cases q;exact q
 rw[show CP 5=5 by decide+kernel] at hL1;have hf1:=hD1.f
 rw[Uj] at hf1;refine Zc 4 rfl ?_;have hvp1:∀ e∈L1,1≤e.2:=fun e he=>(FZ (H.says 2 rfl (fun h a=>trA.k a)).i (by omega) (show ∀ e∈L1,∃ b,DQ o1 none e.2=some (.dt b) from hD1.I.root.data) e he).1
 refine Z2 6 [1,0,0] H rfl (z_E_ rfl (call14 _) (Yt _ _ _ o1 none _ _ L1 hD1.I.root) H.f2 ?_);intro w H;refine Zc 11 rfl (Ax rfl (call12 _) (HN _ _ _ m1 32 o1 a1 L1 [] 5 true 0 hD1.I (by have:=hD1.m;omega) (by omega)) H.f2.f2 ?_);rintro _ w _ ⟨a2,L2,o2,m2,hD2,rfl,rfl⟩ H;replace H:=H.l3;have hL2:L2=[]:=by rcases hD2.d with ⟨q,_⟩|⟨_,q⟩|⟨q,_⟩;(exfalso;omega);(rw[q,hL1,show CP 5=5 by decide+kernel];simp[putE,AV]);cases q
 have ha2:a2=0:=Root.nil (by rw[←hL2];exact hD2.I.root)
 refine Zc 7 rfl (z_E_ rfl (call17 _) (Yu _ _ _ _ _ _ _) H.f2 ?_);intro w H;refine Zc 8 rfl ?_;have K2:=H.says 0 rfl (fun h a=>trA.k a)
 have hfe:cnt (frC 32 o2.C) 0 1024=cnt (frC 32 (Gc 32).C) 0 1024:=by rw[K2.empty (by rw[hD2.I.r,ha2];rfl)];rfl
 have hg1:getE 5 L1≠0:=(Hh (fun e he=>hvp1 e he)).1.2 (by rw[hL1];exact ⟨val,by simp[putE]⟩)
 refine Z0 7 [0] rfl (Al 46 rfl (fun h1=> ?_) (fun h1=> ?_))
 ·refine Z2 14 [3,1,1,0,0] H rfl (Al 60 rfl (fun h2=> ?_) (fun h2=> ?_))
  ·refine Zc 1 rfl (z_E_ rfl (call22 _) (FT _ _ _ _ none) H ?_);intro w H;replace H:=H.l3;refine AC 62 (v:=Iv_ (cnt (frC 32 o2.C) 0 1024:Int)) rfl rfl (Z0 4 [0] rfl (Al 66 rfl (fun h3=> ?_) (fun h3=> ?_)))
   ·refine Z0 7 [3] rfl (Zr rfl ?_);exact ⟨_,⟨rfl,rfl⟩,((H.pick 3 [0] rfl).trTab).2⟩
   ·(exfalso;omega)
  ·(exfalso;omega)
 ·(exfalso;omega)
end
section
open Go.RowKit
variable {Tb:Ae}
structure OtE where
 k:Int
 d:Bool
 f:Int
def OtE.cells (e:OtE):List Value:=[.int .i64 e.k,.bool e.d,.int .i64 e.f]
def GJ (es:List OtE):List Value:=es.flatMap OtE.cells
theorem Wy (es:List OtE):(GJ es).length=es.length * 3:=by
 induction es with
 | nil=>rfl
 | cons e es ih=>simp only[GJ,List.flatMap_cons,List.length_append] at ih ⊢;rw[ih];simp[OtE.cells];omega
theorem EY:∀ {es:List OtE} {j:Nat} {e:OtE},es[j]? =some e→∀ k u,(OtE.cells e)[k]? =some u→(GJ es)[j * 3+k]? =some u
 | x::es,0,e,h,k,u,hk=>by
  simp at h;subst h
  have hl:=(List.getElem?_eq_some_iff.1 hk).1
  simp only[GJ,List.flatMap_cons]
  rw[List.getElem?_append_left (by omega)];simpa using hk
 | x::es,j+1,e,h,k,u,hk=>by
  have:=EY (es:=es) (j:=j) (by simpa using h) k u hk
  simp only[GJ,List.flatMap_cons] at this ⊢
  rw[List.getElem?_append_right (by simp[OtE.cells];omega)]
  rw[show (j+1) * 3+k - (OtE.cells x).length=j * 3+k from by simp[OtE.cells];omega]
  exact this
def Yv (v:Value) (es:List OtE) (A:Ae):Prop:=∀ h,A h→rdH 3 v es.length (GJ es) h∧∀ e∈es,-9223372036854775808≤e.k∧e.k≤9223372036854775807
end
section
open Go.ChangeShapes Go.WideShapes Go.ChangeAt Go.RowKit Go.Joins
theorem own:ownKnob prog.godebug=none:=by kernel_rfl
theorem Kv:laidOutB prog=true:=by kernel_rfl
theorem HO:prog.cellsOf 3=1:=by kernel_rfl
def Lm:DataW Unit→List Value
 | .lit (.int k n)=>[.int k n]
 | .agg parts=>flatWs parts
 | _=>[]
where flatWs:List (DataW Unit)→List Value
 | []=>[]
 | d::ds=>Lm d++flatWs ds
def TH:Obj→Obj
 | .cells c t frozen=> .cells (if c.size=32 then (Lm Rows.laid_unicode_utf8_acceptRanges).toArray else if c.size=64 then (Lm Rows.laid_math_bits_deBruijn64tab).toArray else (Lm Rows.laid_unicode_utf8_first).toArray) t frozen
 | o=>o
noncomputable def HP (os:Os):World:=
 { World.holding prog os ⟨#[],#[],[]⟩ with heap:=(((World.holding prog os ⟨#[],#[],[]⟩).heap.modify 0 TH).modify 1 TH).modify 2 TH }
theorem IF {α:Type} (P:Nat→α→Prop):∀ n,(∀ i,i<n→∃ a,P i a)→∃ l:List α,l.length=n∧∀ i a,l[i]? =some a→P i a
 | 0,_=>⟨[],rfl,fun i a h=>by simp at h⟩
 | n+1,h=>by
  obtain ⟨l,hl,hp⟩:=IF P n (fun i hi=>h i (by omega))
  obtain ⟨a,ha⟩:=h n (by omega)
  refine ⟨l++[a],by simp[hl],fun i b hb=> ?_⟩
  rcases Nat.lt_or_ge i n with q|q
  ·rw[List.getElem?_append_left (by omega)] at hb;exact hp i b hb
  ·rw[List.getElem?_append_right (by omega)] at hb
   obtain rfl:i=n:=by have:=(List.getElem?_eq_some_iff.1 hb).1;simp at this;omega
   simp[hl] at hb;subst hb;exact ha
abbrev Ln (x:Int):Prop:= -9223372036854775808≤x∧x≤9223372036854775807
theorem Zb {n:Int} (h:(Lit.int .i64 n).wf=true):Ln n:=by
 simp only[Lit.wf,Bool.and_eq_true,decide_eq_true_eq] at h
 have h1:IntKind.i64.min= -9223372036854775808:=by decide
 have h2:IntKind.i64.max=9223372036854775807:=by decide
 rw[h1,h2] at h
 exact h
theorem TI {H:Type} (d:DataW H):1≤Rows.uptoBulk d:=by
 cases d with
 | lit l=>cases l<;>simp[Rows.uptoBulk]
 | nil=>simp[Rows.uptoBulk]
 | ptr d=>simp[Rows.uptoBulk]
 | slice elems spare=>simp[Rows.uptoBulk]
 | agg parts=>simp[Rows.uptoBulk]
 | iface t d=>simp[Rows.uptoBulk]
 | map entries=>simp[Rows.uptoBulk]
 | held h=>simp[Rows.uptoBulk]
theorem TJ {H:Type} (l:List (DataW H)):l.length≤Rows.uptoBulkAll l:=by
 induction l with
 | nil=>simp
 | cons x r ih=>have:=TI x;simp only[Rows.uptoBulkAll,List.length_cons];omega
theorem Ni:prog.cellsOf 35=3:=by kernel_rfl
theorem Wz {H:Type} {enc:TypeId×Value→H} {W:World} {fuel:Nat} {cs:List Value} {d:DataW H} {p:List MemPlace} (h:DataW.trod enc prog W 0 (fun _=>true) true fuel 35 cs=some (d,p)):
  ∃ e:OtE,cs=OtE.cells e∧Ln e.k:=by
 obtain ⟨xs,n,rfl,hx,hl,hxl,hf⟩:=DataW.trod_struct underlying35 h
 rw[Ni] at hl
 match cs,hl with
 | [c0,c1,c2],_=>
  have f0:=hf 0 _ rfl
  have f1:=hf 1 _ rfl
  have f2:=hf 2 _ rfl
  match xs,hxl with
  | [y0,y1,y2],_=>
   have kb:prog.cellsOf 4=1:=by kernel_rfl
   try dsimp only at f0
   try simp only[HO,kb,List.drop_zero,List.drop_succ_cons,List.take_succ_cons,List.take_zero,List.getElem?_cons_zero,List.getElem?_cons_succ] at f0
   try dsimp only at f1
   try simp only[HO,kb,List.drop_zero,List.drop_succ_cons,List.take_succ_cons,List.take_zero,List.getElem?_cons_zero,List.getElem?_cons_succ] at f1
   try dsimp only at f2
   try simp only[HO,kb,List.drop_zero,List.drop_succ_cons,List.take_succ_cons,List.take_zero,List.getElem?_cons_zero,List.getElem?_cons_succ] at f2
   obtain ⟨z0,e0,_,w0⟩:=DataW.trod_int underlying3 f0
   obtain ⟨z1,e1,_⟩:=DataW.trod_bool underlying4 f1
   obtain ⟨z2,e2,_,w2⟩:=DataW.trod_int underlying3 f2
   have g0:=congrArg (fun l=>l.headD .nilFunc) e0
   try simp at g0
   subst g0
   have g1:=congrArg (fun l=>l.headD .nilFunc) e1
   try simp at g1
   subst g1
   have g2:=congrArg (fun l=>l.headD .nilFunc) e2
   try simp at g2
   subst g2
   exact ⟨⟨z0,z1,z2⟩,rfl,Zb w0⟩
theorem OJ:∀ (es:List OtE) (k:Nat) (u:Value),(GJ es)[k]? =some u→∃ e,es[k / 3]? =some e∧(OtE.cells e)[k % 3]? =some u
 | [],k,u,h=>by simp[GJ] at h
 | x::es,k,u,h=>by
  have hl:(OtE.cells x).length=3:=rfl
  simp only[GJ,List.flatMap_cons] at h
  rcases Nat.lt_or_ge k 3 with q|q
  ·rw[List.getElem?_append_left (by omega)] at h
   exact ⟨x,by rw[Nat.div_eq_of_lt q];rfl,by rw[Nat.mod_eq_of_lt q];exact h⟩
  ·rw[List.getElem?_append_right (by omega),hl] at h
   obtain ⟨e,h1,h2⟩:=OJ es (k - 3) u h
   refine ⟨e,?_,?_⟩
   ·rw[show k / 3=(k - 3) / 3+1 from by omega];simpa using h1
   ·rw[show k % 3=(k - 3) % 3 from by omega];exact h2
theorem I6 {H:Type} {enc:TypeId×Value→H} {W:World} {fuel:Nat} {v:Value} {d:DataW H} {p:List MemPlace} (h:DataW.trod enc prog W 0 (fun _=>true) true fuel 22 [v]=some (d,p)):
  ∃ es:List OtE,Rd 3 v es.length (GJ es) W∧(∀ e∈es,Ln e.k)∧es.length≤Rows.uptoBulk d:=by
 rcases DataW.trod_slice underlying22 h with ⟨hcs,_⟩|⟨a,len,cap,elems,rest,n,rfl,hcs,hx,_,hlc,hcm,hel,hg,_,_⟩
 ·simp only[List.cons.injEq,and_true] at hcs;subst hcs
  exact ⟨[],by simpa [GJ] using Rd.nil 3 W,fun e he=>absurd he (by simp),by simp⟩
 ·simp only[List.cons.injEq,and_true] at hcs;subst hcs
  have hd:d= .slice (elems.map (·.1)) (rest.map (·.1)):=by have:=congrArg Prod.fst hx;simpa using this
  obtain ⟨es,hes,hP⟩:=IF (fun i (e:OtE)=>(∀ j,j<3→W.cell? ((a.add (i * 3)).add j)=(OtE.cells e)[j]?)∧Ln e.k) len (fun i hi=>by
   have hb:=hg i hi
   rw[Ni] at hb
   obtain ⟨y,hy⟩:∃ y,elems[i]? =some y:=⟨_,List.getElem?_eq_getElem (by omega)⟩
   rw[hy,Option.bind_eq_some_iff] at hb
   obtain ⟨cs,hc,ht⟩:=hb
   obtain ⟨e,rfl,h1⟩:=Wz (d:=y.1) (p:=y.2) ht
   exact ⟨e,(World.cells?_some hc).2.2,h1⟩)
  refine ⟨es,⟨some a,cap,by rw[hes],by omega,(by unfold maxLen at hcm;omega),by rw[Wy],fun k u hk=> ?_⟩,fun e he=> ?_,?_⟩
  ·obtain ⟨e,h1,h2⟩:=OJ _ k u hk
   have hc:=(hP _ e h1).1 (k % 3) (Nat.mod_lt _ (by omega))
   rw[h2] at hc
   obtain ⟨b,off,spot⟩:=a
   have hspot:spot=none:=by
    have hlt:=(List.getElem?_eq_some_iff.1 h1).1
    obtain ⟨e0,he0⟩:∃ e0,es[0]? =some e0:=⟨_,List.getElem?_eq_getElem (by omega)⟩
    have hc0:=(hP _ e0 he0).1 0 (by omega)
    have h0:W.cell? ⟨b,off,spot⟩=some (Iv_ e0.k):=by simpa [Addr.add,OtE.cells] using hc0
    exact World.cell?_spot h0
   subst hspot
   refine ⟨b,off,rfl,?_⟩
   unfold Ex
   have e2:((Addr.add ⟨b,off,none⟩ (k / 3 * 3)).add (k % 3))=⟨b,off+k,none⟩:=by
    rw[Go.WideShapes.add_plain,Go.WideShapes.add_plain]
    congr 1;omega
   rw[←e2];exact hc
  ·obtain ⟨i,hi⟩:=List.getElem?_of_mem he
   exact (hP i e hi).2
  ·rw[hes,hd]
   have:=TJ (elems.map (·.1))
   simp only[Rows.uptoBulk,List.length_map] at this ⊢;omega
/-! ### the library's Iv -/
theorem Yw:prog.globalNamed "math/bits.deBruijn64tab"=some 0:=by kernel_rfl
theorem TK:(prog.globals[0]?).map (·.type)=some 257:=by kernel_rfl
theorem WA:prog.cellsOf 257=64:=by kernel_rfl
theorem WB:prog.cellsOf 5=1:=by kernel_rfl
def tzL:List Int:=Lib.deBruijn64tab.map Int.ofNat
theorem Iv {W:World} (h:laidMetH prog Rows.treeMapUptoRow.laid W):Lib.TabIs prog W "math/bits.deBruijn64tab" .u8 tzL:=
 Lib.tabIs_of_head (rest:=[("unicode/utf8.acceptRanges",Rows.laid_unicode_utf8_acceptRanges),("unicode/utf8.first",Rows.laid_unicode_utf8_first)]) Yw TK underlying257 underlying5 WB WA h
theorem Kw {W:World} (h:Lib.TabIs prog W "math/bits.deBruijn64tab" .u8 tzL):∃ t fr,W.heap[0]? =some (.cells (tzL.map fun z=>Value.int .u8 z).toArray t fr):=by
 unfold Lib.TabIs World.var? at h
 rw[Yw] at h
 simp only[Option.bind_some] at h
 cases e:W.heap[0]? with
 | none=>rw[e] at h;cases h
 | some o=>
  rw[e] at h
  cases o<;>simp at h
  subst h;exact ⟨_,_,rfl⟩
def Iw (W:World):Ae:=fun h=>∀ k,k<W.heap.size→k≠0→h k=W.heap[k]?
def Nj (W:World):Ae:=fun h=>h 0=W.heap[0]?
theorem Yx:(List.range 64).all (fun j=>tzL[j]? == some ((Qd j).toNat:Int))=true:=by decide+kernel
theorem Zd {W:World} (ht:Lib.TabIs prog W "math/bits.deBruijn64tab" .u8 tzL):GY (Nj W):=fun h hh j hj=>by
 obtain ⟨t,fr,e⟩:=Kw ht
 have:=List.all_eq_true.1 Yx j (List.mem_range.2 hj)
 have h2:tzL[j]? =some ((Qd j).toNat:Int):=by simpa using this
 exact ⟨_,t,fr,(show h 0=_ from hh).trans e,by simp[h2,u8]⟩
theorem WC {W:World} (ht:Lib.TabIs prog W "math/bits.deBruijn64tab" .u8 tzL):0<W.heap.size:=by
 obtain ⟨t,fr,e⟩:=Kw ht
 rcases Nat.eq_zero_or_pos W.heap.size with q|q
 ·rw[Array.getElem?_eq_none (by omega)] at e;cases e
 ·exact q
theorem Ri {W:World} (ht:Lib.TabIs prog W "math/bits.deBruijn64tab" .u8 tzL) {b o:Nat} {v:Value} (hc:Ex b o v W) (hv:∀ x,v≠ .int .u8 x):∀ h,Iw W h→celH h b o v:=fun h hb=>by
 have hne:b≠0:=fun e=>by
  subst e
  obtain ⟨t,fr,e⟩:=Kw ht
  unfold Ex World.cell? at hc
  rw[e] at hc
  simp at hc
  obtain ⟨z,_,hz⟩:=hc
  exact hv _ hz.symm
 unfold Ex World.cell? at hc
 cases hh:W.heap[b]? with
 | none=>rw[hh] at hc;simp at hc
 | some o'=>
  rw[hh] at hc
  cases o' with
  | cells cs ty fr=>
   simp at hc
   have hlt:b<W.heap.size:=by
    rcases Nat.lt_or_ge b W.heap.size with q|q
    ·exact q
    ·rw[Array.getElem?_eq_none q] at hh;cases hh
   exact ⟨cs,ty,fr,(hb b hlt hne).trans hh,hc⟩
  | _=>simp at hc
theorem I7 {sz:Nat} {v:Value} {n:Nat} {xs:List Value} {W:World} (ht:Lib.TabIs prog W "math/bits.deBruijn64tab" .u8 tzL) (r:Rd sz v n xs W) (hx:∀ u∈xs,∀ x,u≠ .int .u8 x):∀ h,Iw W h→rdH sz v n xs h:=fun h hb=>by
 obtain ⟨ao,c,e,h1,h2,h3,h4⟩:=r
 exact ⟨ao,c,e,h1,h2,h3,fun j u hj=>by
  obtain ⟨b,p,e',hc⟩:=h4 j u hj
  exact ⟨b,p,e',Ri ht hc (hx u (List.mem_of_getElem? hj)) h hb⟩⟩
theorem Px (es:List OtE):∀ u∈GJ es,∀ x,u≠ .int .u8 x:=fun u hu x=>by
 simp only[GJ,List.mem_flatMap] at hu
 obtain ⟨e,_,he⟩:=hu
 simp[OtE.cells] at he
 rcases he with rfl|rfl|rfl<;>simp
theorem OK {h:Hp} {own:Nat→Nat} {i k:Nat} {o:Obj} (e:h.part own i k=some o):h k=some o:=by
 unfold Hp.part at e
 split at e
 ·exact e
 ·cases e
theorem Cn.run2 {P:Program} {f:FuncId} {args:List Value} {W:World} {u:Value} (h0:0<W.heap.size) (h:Cn P f args [Iw W,Nj W] (fun v Γ=>v=u∧Γ=[Iw W,Nj W])):Calls P f args.toArray W (Ret fun v W'=>v=u∧Ext No W W'):=by
 have hS:Sep W [Iw W,Nj W] W:=⟨rfl,rfl,rfl,fun q=>if q=0 then 1 else 0,fun i A hA=>by
  match i,hA with
  | 0,hA=>cases hA;intro k hk hne;simp[Hp.part,hp,hne]
  | 1,hA=>cases hA;show Hp.part _ _ _ 0=_;simp[Hp.part,hp]⟩
 refine Ret.mono (h W [] W hS) ?_
 rintro v W' ⟨Γ,⟨rfl,rfl⟩,H⟩
 obtain ⟨own,hown⟩:=H.own
 have hb:=hown 0 _ rfl
 have ht:=hown 1 _ rfl
 have hall:∀ k,k<W.heap.size→hp W' k=W.heap[k]? :=fun k hk=>by
  obtain ⟨o,ho⟩:∃ o,W.heap[k]? =some o:=⟨_,Array.getElem?_eq_getElem hk⟩
  rw[ho]
  by_cases q:k=0
  ·subst q;exact OK ((show _=_ from ht).trans ho)
  ·exact OK ((hb k hk q).trans ho)
 have H2:Sep W [base W] W':=⟨H.os,H.tape,H.output,fun k=>if k<W.heap.size then 0 else 1,fun i A hA=>by
  match i,hA with
  | 0,hA=>cases hA;intro k hk;unfold Hp.part;rw[if_pos (by simp[hk])];exact hall k hk⟩
 exact ⟨rfl,Sep.done 0 H2 rfl⟩
section
variable {H:Type} {enc:TypeId×Value→H} {P:Program} {w:World} {base:Nat} {spare:Nat→Bool} {held:Bool}
end
section
variable {H:Type} {enc:TypeId×Value→H} {P:Program} {w:World} {base:Nat} {spare:Nat→Bool} {held:Bool}
end
section
variable {H:Type} {enc:TypeId×Value→H} {P:Program} {w:World} {base:Nat} {spare:Nat→Bool} {held:Bool}
theorem Ze {t0 t1 t2:TypeId} {args:Array Value} {ds:List (DataW H)} {ps:List MemPlace} (h:DataW.TrodAll enc P w base spare held [t0,t1,t2] args.toList ds ps):
  ∃ v0 v1 v2 d0 d1 d2 p0 p1 p2,args= #[v0,v1,v2]∧ds=[d0,d1,d2]∧ps=p0++(p1++p2)∧DataW.Trod enc P w base spare held t0 v0 d0 p0∧DataW.Trod enc P w base spare held t1 v1 d1 p1∧DataW.Trod enc P w base spare held t2 v2 d2 p2:=by
 obtain ⟨v0,vs0,d0,ds0,p0,q0,hargs,rfl,rfl,hd0,hr0⟩:=trodAll_cons h
 obtain ⟨v1,vs1,d1,ds1,p1,q1,rfl,rfl,rfl,hd1,hr1⟩:=trodAll_cons hr0
 obtain ⟨v2,vs2,d2,ds2,p2,q2,rfl,rfl,rfl,hd2,hr2⟩:=trodAll_cons hr1
 obtain ⟨rfl,rfl,rfl⟩:=trodAll_nil hr2
 exact ⟨v0,v1,v2,d0,d1,d2,p0,p1,p2,by cases args;simp_all,rfl,by simp,hd0,hd1,hd2⟩
theorem WD {t0 t1 t2:TypeId} {v0 v1 v2:Value} {d0 d1 d2:DataW H} {p0 p1 p2:List MemPlace} (h0:DataW.Trod enc P w base spare held t0 v0 d0 p0) (h1:DataW.Trod enc P w base spare held t1 v1 d1 p1) (h2:DataW.Trod enc P w base spare held t2 v2 d2 p2):DataW.TrodAll enc P w base spare held [t0,t1,t2] [v0,v1,v2] [d0,d1,d2] (p0++(p1++p2)):=
 ⟨p0,_,h0,⟨p1,_,h1,(trodAll_mk1 h2),rfl⟩,rfl⟩
end
end
section
open Go.RowKit
def qrow (e:TypeId) (v:Value) (n:Nat) (xs:List Value):Ae:=fun h=>xs.length=n∧
 ((v= .slice none 0 0∧n=0)∨∃ g p cap cs,v= .slice (some ⟨g,p,none⟩) n cap∧blk g cs e h∧n≤cap∧cap≤maxLen∧p+cap≤cs.length∧(cs.drop p).take n=xs)
theorem qrow.len {e:TypeId} {v:Value} {n:Nat} {xs:List Value} {h:Hp} (q:qrow e v n xs h):xs.length=n:=q.1
theorem qrow.slc {e:TypeId} {v:Value} {n:Nat} {xs:List Value} {h:Hp} (q:qrow e v n xs h):∃ ao c,v= .slice ao n c:=by
 rcases q.2 with ⟨rfl,rfl⟩|⟨g,p,cap,cs,rfl,_⟩
 ·exact ⟨_,_,rfl⟩
 ·exact ⟨_,_,rfl⟩
theorem qrow.nil (e:TypeId) (h:Hp):qrow e (.slice none 0 0) 0 [] h:=⟨rfl,.inl ⟨rfl,rfl⟩⟩
theorem qrow.of {e:TypeId} {v:Value} {n:Nat} {xs:List Value} {h:Hp} (g:grow e 1 v n xs h):qrow e v n xs h:=by
 have hl:=g.1
 refine ⟨by omega,g.2.imp id ?_⟩
 rintro ⟨b,cap,cur,hv,hb,h1,h2,h3,h4⟩
 exact ⟨b,0,cap,cur.toList,hv,by simpa [blk,bk] using hb,h1,h2,by simp;omega,by simpa using h4⟩
theorem qrow.rd {e:TypeId} {v:Value} {n:Nat} {xs:List Value} {h:Hp} (q:qrow e v n xs h):rdH 1 v n xs h:=by
 have hl:=q.1
 rcases q.2 with ⟨rfl,rfl⟩|⟨g,p,cap,cs,rfl,hb,h1,h2,h3,h4⟩
 ·have:xs=[]:=List.length_eq_zero_iff.1 hl
  subst this;exact rdH.nil 1 h
 ·exact hb.rd h1 (by unfold maxLen at h2;omega) (by omega) (by rw[Nat.mul_one];exact h4)
theorem qrow.cut {e:TypeId} {ao:Option Addr} {n c:Nat} {xs:List Value} {h:Hp} (q:qrow e (.slice ao n c) n xs h) (hn:1≤n):qrow e (.slice (cutA ao c 1) (n - 1) (c - 1)) (n - 1) (xs.drop 1) h:=by
 have hl:=q.1
 refine ⟨by simp[hl],.inr ?_⟩
 rcases q.2 with ⟨e1,e2⟩|⟨g,p,cap,cs,e1,hb,h1,h2,h3,h4⟩
 ·omega
 cases e1
 unfold cutA
 by_cases hc:c=1
 ·subst hc
  have hn1:n=1:=by omega
  subst hn1
  rw[if_pos rfl]
  exact ⟨g,p,0,cs,rfl,hb,by omega,by omega,by omega,by rw[List.take_zero];exact (List.drop_of_length_le (by omega)).symm⟩
 ·rw[if_neg hc]
  refine ⟨g,p+1,c - 1,cs,by simp[Addr.add],hb,by omega,by omega,by omega,?_⟩
  rw[←h4,List.drop_take,List.drop_drop]
section
variable {P:Program} {o:Oper} {w z:World} {Γ:List Ae} {n:Nat} {ds:List Deferred} {L:List (Nat×Value)} {v u:Value} {x y:Operand}
theorem K8 {t e:TypeId} {zv q:Value} {by_ k:Nat} {xs:List Value} (H:Sep z (qrow e v k xs::Γ) w) (ho:o.op= .call { callee:= .builtin .append,args:= #[x,y],argTypes:= #[t,t] })
  (ht:P.underlying t=some (.slice e)) (hE:Elt P e zv 1 by_) (hx:ev L x=some v) (hy:ev L y=some u) (hsrc:Rd 1 u 1 [q] w) (h1:q.oneCell'=true) (hby:(k+1) * by_≤140737488355328):
  BW P n ds L o w (fun v' w'=>Sep z (qrow e v' (k+1) (xs++[q])::Γ) w'):=fun a hF=>by
 have hl:=H.says 0 rfl (fun h q=>q.len)
 by_cases hnil:v= .slice none 0 0∧k=0
 ·obtain ⟨rfl,rfl⟩:=hnil
  have hxs:xs=[]:=List.length_eq_zero_iff.1 hl
  subst hxs
  have H1:=H.mono 0 (B:=grow e 1 (.slice none 0 0) 0 []) rfl (fun h _=>grow.nil e 1 h)
  obtain ⟨v',w',hr,H2⟩:=A0 (P:=P) (n:=n) (ds:=ds) (L:=L) 0 (m:=1) (news:=[q]) H1 rfl ho ht hE hx hy hsrc (by simpa using h1) (by simpa using hby) a hF
  exact ⟨v',w',hr,H2.mono 0 rfl (fun h g=>qrow.of g)⟩
 obtain ⟨⟨g,p,cap,cs⟩,⟨rfl,c1,c2,c3,c4⟩,H⟩:=H.exAt 0 (σ:=Nat×Nat×Nat×List Value) (p:=fun s=>v= .slice (some ⟨s.1,s.2.1,none⟩) k s.2.2.1∧k≤s.2.2.1∧s.2.2.1≤maxLen∧s.2.1+s.2.2.1≤s.2.2.2.length∧(s.2.2.2.drop s.2.1).take k=xs) (B:=fun s=>blk s.1 s.2.2.2 e) rfl (fun h q=>by
  rcases q.2 with e|⟨g,p,cap,cs,e1,e2,e3,e4,e5,e6⟩
  ·exact absurd e hnil
  ·exact ⟨⟨g,p,cap,cs⟩,⟨e1,e3,e4,e5,e6⟩,e2⟩)
 dsimp only at c1 c2 c3 c4
 have H:Sep z (blk g cs e::Γ) w:=H
 obtain ⟨ao,c,rfl,hmc,_,hnl,hrd⟩:=hsrc
 obtain ⟨b',p',rfl,hcq⟩:=hrd 0 q rfl
 obtain ⟨i,hi,hz,hs,hb,hzs,hsz,hb0⟩:=hE
 have hexec:∀ r w',(Builtin.append_ #[t,t] o.type #[.slice (some ⟨g,p,none⟩) k cap,.slice (some ⟨b',p',none⟩) 1 c]).run P w= .ok r w'→(execOp a.eval o).run P w= .ok (.value r) w':=fun r w' h=>by
  simp only[execOp,ho,resolve,invoke,builtin,Sem.run_bind,Sem.run_pure,Result.andThen_ok,List.map_toArray,List.map_cons,List.map_nil,hF.ev hx,hF.ev hy,h]
 have hnews:∀ j u,[q][j]? =some u→w.cell? (Addr.add ⟨b',p',none⟩ j)=some u:=fun j u hj=>by
  cases j with
  | zero=>
   simp at hj;subst hj
   have:Addr.add ⟨b',p',none⟩ 0=⟨b',p',none⟩:=rfl
   rw[this];simpa [Ex] using hcq
  | succ j=>simp at hj
 have h63:k+1≤maxLen:=by
  have:(k+1) * 1≤(k+1) * by_:=Nat.mul_le_mul_left _ hb0
  unfold maxLen;omega
 have hB:=H.blk 0 rfl
 by_cases hroom:k+1≤cap
 ·have hfc:=run_firstCells_some (P:=P) w i.size 1 ⟨b',p',none⟩ 1 c [q] (by simp[hs]) hnews
  have hst:=run_storeCells_at P g (p+k) e [q] 0 cs.toArray w hB (by simp;omega) (by simpa using h1)
  simp only[Nat.add_zero,List.toList_toArray] at hst
  refine ⟨.slice (some ⟨g,p,none⟩) (k+1) cap,_,hexec _ _ (by
   simp[Builtin.append_,run_underlying ht,sizeOf,typeInfo,hi,hs,Builtin.lenOf,hroom,hs▸hfc,Addr.add_lit,hst];rfl),?_⟩
  rw[show (cs.take (p+k)++q::cs.drop (p+k+1))=cs.take (p+k)++[q]++cs.drop (p+k+1) from by simp]
  have H2:=H.write 0 (b:=g) (o:= .cells cs.toArray e (0,0)) (o':= .cells ((cs.take (p+k)++[q]++cs.drop (p+k+1)).toArray) e (0,0)) rfl (w':=w.setRow g (cs.take (p+k)++[q]++cs.drop (p+k+1)).toArray) rfl rfl rfl (setRow_heap w g _ _ e (0,0) hB) (fun k hk=>setRow_other w g k _ hk)
  have H3:Sep z (blk g (cs.take (p+k)++[q]++cs.drop (p+k+1)) e::Γ) _:=H2
  refine Sep.mono 0 (B:=qrow e (.slice (some ⟨g,p,none⟩) (k+1) cap) (k+1) (xs++[q])) H3 rfl (fun h bb=>⟨by simp[hl],.inr ⟨g,p,cap,_,rfl,bb,hroom,c2,by simp;omega,?_⟩⟩)
  rw[List.append_assoc,List.drop_append_of_le_length (by simp;omega),List.drop_take,Nat.add_sub_cancel_left,←List.append_assoc]
  rw[List.take_append_of_le_length (by simp;omega),c4,List.take_of_length_le (by simp[hl])]
 ·obtain ⟨v',w',hr,hO,hg⟩:=run_append_arg_grows (P:=P) w t o.type e i zv 1 by_ ht hi hz hs hb hzs hsz ⟨g,p,none⟩ k cap xs (by omega) (fun j u hj=>by
   rw[←c4,List.getElem?_take] at hj
   split at hj
   ·rw[List.getElem?_drop] at hj
    have:=hB.cel (p+j) hj
    have e0:(Addr.add ⟨g,p,none⟩ j)=⟨g,p+j,none⟩:=by
     unfold Addr.add;split
     ·rename_i h0;simp[h0]
     ·rfl
    rw[e0];exact this
   ·cases hj) ⟨b',p',none⟩ 1 c [q] rfl hnews (by omega) h63 hby
  refine ⟨v',w',hexec _ _ hr,?_⟩
  rcases hO.2 with ⟨_,e0⟩|⟨g',cap',cur,rfl,hge,hgb,d1,d2,d3,d4⟩
  ·omega
  have H2:=H.new (Ext.of_grown_none hg) hge hgb
  have H3:Sep z (bk g' (.cells cur e (0,0))::Γ) w':=H2.pick 2 [0] rfl
  exact H3.mono 0 rfl (fun h bb=>⟨by simp[hl],.inr ⟨g',0,cap',cur.toList,rfl,by simpa [blk] using bb,d1,d2,by simp;omega,by simpa using d4⟩⟩)
end
/-! ### counting -/
def isN (N:Hm) (p:Nat):Prop:=∃ d,N p=some (.nd d)
structure Bf (N:Hm) (R:List Nat) (D K Q:List Nat) (F:Nat→Nat):Prop where
 nd:(D++Q).Nodup
 mem:∀ x,x∈D++Q↔0<F x∧isN N x
 cnt:∀ x,F x=R.count x+(D.map fun q=>Cf (N q) x).sum+K.count x
theorem Bf.nil (N:Hm):Bf N [] [] [] [] (fun _=>0):=⟨by simp,by simp,by simp⟩
theorem Bf.root {N:Hm} {R Q:List Nat} {F:Nat→Nat} {r:Nat} (b:Bf N R [] [] Q F) (hr:isN N r):Bf N (R++[r]) [] [] (if F r=0 then Q++[r] else Q) (fup F r (F r+1)):=by
 have hc:∀ x,fup F r (F r+1) x=(R++[r]).count x+(([]:List Nat).map fun q=>Cf (N q) x).sum+([]:List Nat).count x:=fun x=>by
  have:=b.cnt x
  simp only[List.map_nil,List.sum_nil,List.count_nil,Nat.add_zero] at this ⊢
  rw[List.count_append,←this]
  by_cases e:x=r
  ·subst e;rw[Bg];simp
  ·rw[AU _ _ e];have:(r == x)=false:=by simp[Ne.symm e]
   simp[List.count_cons,this]
 by_cases h0:F r=0
 ·rw[if_pos h0]
  have hnr:r∉[]++Q:=fun h=>by have:=((b.mem r).1 h).1;omega
  refine ⟨?_,fun x=> ?_,hc⟩
  ·simp only[List.nil_append] at hnr ⊢
   exact List.nodup_append.2 ⟨by simpa using b.nd,by simp,fun x hx y hy=>by simp at hy;subst hy;intro e;subst e;exact hnr hx⟩
  ·have:=b.mem x
   by_cases e:x=r
   ·subst e;simp[Bg,hr]
   ·rw[AU _ _ e];simpa [e] using this
 ·rw[if_neg h0]
  refine ⟨b.nd,fun x=> ?_,hc⟩
  have:=b.mem x
  by_cases e:x=r
  ·subst e;rw[Bg,this];exact ⟨fun h=>⟨by omega,h.2⟩,fun h=>⟨by omega,h.2⟩⟩
  ·rw[AU _ _ e];exact this
theorem Bf.val {N:Hm} {R D K Q:List Nat} {F:Nat→Nat} {v:Nat} {lf:Bool} (b:Bf N R D K Q F) (hv:isN N v↔lf=false):Bf N R D (K++[v]) (if F v=0∧lf=false then Q++[v] else Q) (fup F v (F v+1)):=by
 have hc:∀ x,fup F v (F v+1) x=R.count x+(D.map fun q=>Cf (N q) x).sum+(K++[v]).count x:=fun x=>by
  have:=b.cnt x
  rw[List.count_append,←Nat.add_assoc,←this]
  by_cases e:x=v
  ·subst e;rw[Bg];simp
  ·rw[AU _ _ e];have:(v == x)=false:=by simp[Ne.symm e]
   simp[List.count_cons,this]
 by_cases h0:F v=0∧lf=false
 ·rw[if_pos h0]
  have hnv:v∉D++Q:=fun h=>by have:=((b.mem v).1 h).1;omega
  refine ⟨?_,fun x=> ?_,hc⟩
  ·rw[←List.append_assoc]
   exact List.nodup_append.2 ⟨b.nd,by simp,fun x hx y hy=>by simp at hy;subst hy;intro e;subst e;exact hnv hx⟩
  ·have:=b.mem x
   rw[←List.append_assoc]
   by_cases e:x=v
   ·subst e;simp[Bg,hv.2 h0.2]
   ·rw[AU _ _ e];simpa [e] using this
 ·rw[if_neg h0]
  refine ⟨b.nd,fun x=> ?_,hc⟩
  have:=b.mem x
  by_cases e:x=v
  ·subst e;rw[Bg,this]
   refine ⟨fun h=>⟨by omega,h.2⟩,fun h=>⟨?_,h.2⟩⟩
   have:=hv.1 h.2
   rcases Nat.eq_zero_or_pos (F x) with e|e
   ·exact absurd ⟨e,this⟩ h0
   ·exact e
  ·rw[AU _ _ e];exact this
theorem Bf.pop {N:Hm} {R D Q:List Nat} {F:Nat→Nat} {q:Nat} (b:Bf N R D [] (q::Q) F):∃ d,N q=some (.nd d):=((b.mem q).1 (by simp)).2
theorem Bf.done {N:Hm} {R D Q:List Nat} {F:Nat→Nat} {q:Nat} {d:Nd} (hN:N q=some (.nd d)) (b:Bf N R D (vals d.es) (q::Q) F):Bf N R (D++[q]) [] Q F:=by
 have e:D++[q]++Q=D++q::Q:=by simp
 refine ⟨e▸b.nd,fun x=>e▸b.mem x,fun x=> ?_⟩
 have:=b.cnt x
 simp only[List.map_append,List.map_cons,List.map_nil,List.sum_append,List.sum_cons,List.sum_nil,List.count_nil]
 rw[this,hN];simp only[Cf];omega
variable {n f:Nat} {N:Hm} {C:Nat→Nat} {R:List Nat}
theorem Bf.lt {D K Q:List Nat} {F:Nat→Nat} {R':List Nat} (b:Bf N R' D K Q F) (I:TInv n f N C R):(D++Q).length≤n:=FW b.nd fun p hp=>by
 obtain ⟨d,hd⟩:=((b.mem p).1 hp).2
 exact (I.nin p _ hd).2.1
theorem Rj {g:Nat→Nat} :∀ {D:List Nat},(∀ q∈D,g q≤1)→(D.map g).sum≤D.length
 | [],_=>by simp
 | q::D,h=>by
  have:=Rj (D:=D) (fun q hq=>h q (by simp[hq]))
  have:=h q (by simp)
  simp only[List.map_cons,List.sum_cons,List.length_cons];omega
theorem Bf.small {D K Q:List Nat} {F:Nat→Nat} {R':List Nat} (b:Bf N R' D K Q F) (I:TInv n f N C R) (hK:K.length≤8) (x:Nat):F x≤R'.length+n+8:=by
 rw[b.cnt x]
 have h1:=List.count_le_length (a:=x) (l:=R')
 have h2:=List.count_le_length (a:=x) (l:=K)
 have h3:=Rj (g:=fun q=>Cf (N q) x) (D:=D) (fun q hq=>by
  obtain ⟨d,hd⟩:=((b.mem q).1 (List.mem_append_left _ hq)).2
  rw[hd];exact List.nodup_iff_count.1 (I.nds q d hd).2.1 x)
 have h4:=FW (List.nodup_append.1 b.nd).1 fun p hp=>by
  obtain ⟨d,hd⟩:=((b.mem p).1 (List.mem_append_left _ hp)).2
  exact (I.nin p _ hd).2.1
 omega
theorem I8 {x:Nat} :∀ {n:Nat} {D:List Nat},D.Nodup→(∀ q∈D,q<n)→(∀ q,q<n→q∉D→Cf (N q) x=0)→(D.map fun q=>Cf (N q) x).sum=refs N x n
 | 0,D,_,h,_=>by
  cases D with
  | nil=>rfl
  | cons q D=>have:=h q (by simp);omega
 | n+1,D,hd,h,h0=>by
  simp only[refs]
  by_cases e:n∈D
  ·have hp:=List.perm_cons_erase e
   have hd':=(hp.nodup_iff).1 hd
   have ih:=I8 (x:=x) (n:=n) (D:=D.erase n) (List.nodup_cons.1 hd').2 (fun q hq=>by
    have h1:=h q (List.mem_of_mem_erase hq)
    have h2:q≠n:=fun e=>by subst e;exact (List.nodup_cons.1 hd').1 hq
    omega) (fun q hq hn=>h0 q (by omega) fun hm=>hn ((List.mem_erase_of_ne (by omega)).2 hm))
   have:=(hp.map fun q=>Cf (N q) x).sum_nat
   rw[this,List.map_cons,List.sum_cons,ih];omega
  ·rw[h0 n (by omega) e,I8 (n:=n) hd (fun q hq=>by
    have h1:=h q hq
    have h2:q≠n:=fun e'=>by subst e';exact e hq
    omega) (fun q hq hn=>h0 q (by omega) hn)]
   rfl
theorem Bf.all {D:List Nat} {F:Nat→Nat} (b:Bf N R D [] [] F) (I:TInv n f N C R) (hn:n≤1024) {p:Nat} (h1:f≤p) (h2:p<n):F p=C p:=by
 have hD:∀ x,x∈D↔0<F x∧isN N x:=fun x=>by have:=b.mem x;simpa using this
 have key:∀ r∈R,∀ x,Rch N r x→0<F x:=fun r hr x hx=>by
  induction hx with
  | refl=>rw[b.cnt r];have:=List.count_pos_iff.2 hr;omega
  | @step q p d _ hN hp ih=>
   have hq:=(hD q).2 ⟨ih,d,hN⟩
   rw[b.cnt p]
   have h1:0<Cf (N q) p:=by rw[hN];exact Ha.2 hp
   have:Cf (N q) p≤(D.map fun q=>Cf (N q) p).sum:=by
    obtain ⟨X,Y,rfl⟩:=List.append_of_mem hq
    simp only[List.map_append,List.map_cons,List.sum_append,List.sum_cons];omega
   omega
 rw[I.cnt p h1 h2,b.cnt p,List.count_nil,I8 (n:=n) (by simpa using b.nd) (fun q hq=>by
  obtain ⟨d,hd⟩:=((hD q).1 hq).2
  exact (I.nin q _ hd).2.1) (fun q hq hn'=> ?_)]
 ·rfl
 cases hc:N q with
 | none=>rfl
 | some c=>
  cases c with
  | dt b=>rfl
  | nd d=>
   exfalso
   obtain ⟨i1,i2,i3⟩:=I.nin q _ hc
   obtain ⟨r,hr,hR⟩:=I.reach hn i1 i2 i3
   exact hn' ((hD q).2 ⟨key r hr q hR,d,hc⟩)
theorem TInv.kids (I:TInv n f N C R) {q:Nat} {lf:Bool} {es:List E} (hN:N q=some (.nd ⟨lf,es⟩)) {e:E} (he:e∈es):isN N e.2↔lf=false:=by
 obtain ⟨h,lo,hi,m,L,t⟩:=I.hg q _ hN
 obtain ⟨es',h1,_⟩:=Tr.iff.1 t
 rw[hN] at h1
 injection h1 with h1;injection h1 with h1;injection h1 with h1 h2
 rcases t.kid hN (List.mem_map_of_mem he) with ⟨e0,b,hb⟩|⟨h',_,_,_,e0,t'⟩
 ·subst e0
  simp at h1;subst h1
  exact ⟨fun ⟨d,hd⟩=>by rw[hb] at hd;(injection hd with hd;cases hd),fun e=>by cases e⟩
 ·subst e0
  simp at h1;subst h1
  exact ⟨fun _=>rfl,fun _=>t'.node⟩
end
end Go.Proofs.YtglgbkpniipjbaaGreatDoor
