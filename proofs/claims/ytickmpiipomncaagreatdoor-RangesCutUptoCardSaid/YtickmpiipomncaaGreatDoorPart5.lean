/-
  Steps to: A range is cut away bit by bit, and nothing else. No condition.
-/
import Derived.Test.YtickmpiipomncaaGreatDoorPart4
import Derived.Test.YtickmpiipomncaaGreatDoorCards
import Derived.Test.YtickmpiipomncaaGreatDoorTie
import Derived.WalkKit
import Derived.WalkSpells
import Derived.Deep.Quiet
import Derived.KernelRfl
import Derived.IntWalk
import Derived.Maps.AppendAt
import Derived.Laws.AppendOwnNone
import Derived.Laws.CopyRow
import Derived.StillTail
import Derived.Deep.RegionHeld
import Derived.Laws.IdiomStrings
import Derived.Laws.BytesArg
import Derived.Laws.OwnMore
import Derived.Lib.Strings
import Derived.ArgAppend
import Derived.Test.YtickmpiipomncaaGreatDoorRows
import Derived.RangeFuncLeaves
import Derived.RangeFuncRecord
import Derived.RangeFuncCalls
import Derived.RangeFuncSeq
import Derived.OrdersIn
import Derived.TacticsIn
import Derived.Laws.IdiomRangeMap
import Derived.Defers
import Derived.Laws.LoneSync
import Derived.LoopN
import Derived.Lib.TrailingZeros
import Derived.Test.YtickmpiipomncaaGreatDoorProg
import Derived.Shelf.Sort.Plain
import Derived.Shelf.Slices.In.SortNone
import Derived.DataReads
import Derived.ProofKit
import Derived.OpenShut
import Derived.Lib.SmallJoins
import Derived.Deep.DeepHandedRow
import Derived.Lib.LaidTab
set_option maxRecDepth 100000
set_option linter.unusedSimpArgs false
set_option linter.unusedVariables false
open Go.Proofs.Tryz
namespace Go.Proofs.YtickmpiipomncaaGreatDoor
section
open Go.RowKit
abbrev gK (v:Value) (es:List E):Ae:=grow 3 1 v (kL es).length ((kL es).map (Value.int .i64))
abbrev gV (v:Value) (es:List E):Ae:=grow 3 1 v (vL es).length ((vL es).map (Value.int .i64))
abbrev Fl (A:Ae) (kv:Value) (es:List E):Prop:=∀ h,A h→rdH 1 kv (kL es).length ((kL es).map (Value.int .i64)) h
abbrev Fm (B:Ae) (vv:Value) (es:List E):Prop:=∀ h,B h→rdH 1 vv (vL es).length ((vL es).map (Value.int .i64)) h
abbrev CO (lf:Bool) (k v:Value):Value:= .agg #[.bool lf,k,v]
theorem QT {A B:List E} {key:Int} (h1:∀ e∈A,e.1<key) (h2:∀ e,B.head?=some e→key≤e.1):FdI (kL (A++B)) key A.length:=by
 refine ⟨by simp,fun j x hj hx=> ?_,fun x hx=> ?_⟩
 ·simp only[kL,List.getElem?_map,List.getElem?_append_left hj] at hx
  cases h:A[j]? with
  | none=>rw[h] at hx;cases hx
  | some e=>rw[h] at hx;simp at hx;subst hx;exact h1 e (List.mem_of_getElem? h)
 ·simp only[kL,List.getElem?_map,List.getElem?_append_right (Nat.le_refl _),Nat.sub_self] at hx
  cases B with
  | nil=>simp at hx
  | cons e t=>simp at hx;subst hx;exact h2 e rfl
theorem fd_cases {es:List E} (h:Srt es) (key:Int):(∃ X v Y,es=X++(key,v)::Y∧(∀ e∈X,e.1<key)∧FdI (kL es) key X.length∧(kL es)[X.length]? =some key)∨(¬ Cr key es∧∃ X Y,es=X++Y∧(∀ e∈X,e.1<key)∧(∀ e∈Y,key<e.1)∧FdI (kL es) key X.length∧¬ (kL es)[X.length]? =some key):=by
 rcases key_split h key with ⟨X,v,Y,rfl,h1⟩|⟨h0,X,Y,rfl,h1,h2⟩
 ·exact .inl ⟨X,v,Y,rfl,h1,QT h1 (fun e he=>by simp at he;subst he;exact Int.le_refl _),by simp[kL]⟩
 ·refine .inr ⟨h0,X,Y,rfl,h1,h2,QT h1 (fun e he=> ?_),fun q=> ?_⟩
  ·cases Y with
   | nil=>cases he
   | cons y t=>simp at he;subst he;exact Int.le_of_lt (h2 y (by simp))
  ·simp only[kL,List.getElem?_map,List.getElem?_append_right (Nat.le_refl _),Nat.sub_self] at q
   cases Y with
   | nil=>simp at q
   | cons y t=>simp at q;have:=h2 y (by simp);omega
theorem Pd {lf:Bool} {kv vv:Value} {es:List E} {A B:Ae} (hA:Fl A kv es) (hB:Fm B vv es) (hck:CkN lf (kL es) (vL es)) (hs:Srt es) (key:Int) (val:Nat) (hkv:(0≤key∧key<1048576)∧1≤val∧val<1024) (hfit:Cr key es∨es.length<8):
  Cn prog 137 [CO lf kv vv,Iv_ key,Iv_ (val:Int)] [A,B] (fun v Γ=>∃ v1 v2:Value,v= .tuple #[CO lf v1 v2,Iv_ 0]∧Γ=[gK v1 (putE key val es),gV v2 (putE key val es),A,B]):=by
 have hkv':(0≤key∧key<1048576)∧1≤(val:Int)∧(val:Int)<1024:=by omega
 rcases fd_cases hs key with ⟨X,v0,Y,rfl,h1,hF,hfd⟩|⟨h0,X,Y,rfl,h1,h2,hF,hfd⟩
 ·have h:=VU lf kv vv _ _ A B hA hB hck key (val:Int) hkv' X.length hF hfd
  have e1:kL (putE key val (X++(key,v0)::Y))=kL (X++(key,v0)::Y):=by rw[Dl _ h1];simp[kL]
  have e2:vL (putE key val (X++(key,v0)::Y))=(vL (X++(key,v0)::Y)).set X.length (val:Int):=by
   rw[Dl _ h1];simp[vL,List.set_append]
  refine Cn.mono h ?_
  rintro v Γ ⟨v1,v2,rfl,rfl⟩
  refine ⟨v1,v2,rfl,?_⟩
  unfold gK gV
  rw[e1,e2,List.length_set]
 ·have h:=VW lf kv vv _ _ A B hA hB hck key (val:Int) hkv' X.length hF hfd (by
   rcases hfit with q|q
   ·exact absurd q h0
   ·simpa [kL] using q) (kL (putE key val (X++Y))) (vL (putE key val (X++Y))) (by rw[putE_new h1 h2];simp[kL]) (by rw[putE_new h1 h2];simp[vL])
  exact h
theorem XW {lf:Bool} {kv vv:Value} {es:List E} {A B:Ae} (hA:Fl A kv es) (hB:Fm B vv es) (hck:CkN lf (kL es) (vL es)) (hs:Srt es) (key:Int) (val:Nat) (hkv:(0≤key∧key<1048576)∧1≤val∧val<1024) (hno:¬ Cr key es) (h8:es.length=8):
  Cn prog 137 [CO lf kv vv,Iv_ key,Iv_ (val:Int)] [A,B] (fun v Γ=>v= .tuple #[CO false (.slice none 0 0) (.slice none 0 0),Iv_ 15]∧Γ=[A,B]):=by
 have hkv':(0≤key∧key<1048576)∧1≤(val:Int)∧(val:Int)<1024:=by omega
 rcases fd_cases hs key with ⟨X,v0,Y,rfl,h1,hF,hfd⟩|⟨h0,X,Y,rfl,h1,h2,hF,hfd⟩
 ·exact absurd ⟨v0,by simp⟩ hno
 ·exact VV lf kv vv _ _ A B hA hB hck key (val:Int) hkv' X.length hF hfd (by simpa [kL] using h8)
theorem MN {lf:Bool} {kv vv:Value} {es:List E} {A B:Ae} (hA:Fl A kv es) (hB:Fm B vv es) (h8:es.length≤8) (hs:Srt es) (key:Int):
  Cn prog 94 [CO lf kv vv,Iv_ key] [A,B] (fun v Γ=>(∃ X v0 Y,(es=X++(key,v0)::Y∧∀ e∈X,e.1<key)∧v= .tuple #[Iv_ (X.length:Int),.bool true]∧Γ=[A,B])∨(¬ Cr key es∧∃ i:Nat,v= .tuple #[Iv_ (i:Int),.bool false]∧Γ=[A,B])):=by
 refine Cn.mono (Ic lf kv vv _ _ A B hA hB key (by simpa [kL] using h8)) ?_
 rintro v Γ ⟨i,hi,rfl,rfl⟩
 rcases fd_cases hs key with ⟨X,v0,Y,e,h1,hF,hfd⟩|⟨h0,X,Y,_,h1,h2,hF,hfd⟩
 ·obtain rfl:=hi.uniq hF
  exact .inl ⟨X,v0,Y,⟨e,h1⟩,by rw[decide_eq_true hfd],rfl⟩
 ·obtain rfl:=hi.uniq hF
  exact .inr ⟨h0,_,by rw[decide_eq_false hfd],rfl⟩
theorem Kg {lf:Bool} {kv vv:Value} {es:List E} {A B:Ae} (hA:Fl A kv es) (hB:Fm B vv es) (h8:es.length≤8) (hs:Srt es) (hne:es≠[]) (key:Int):
  Cn prog 95 [CO lf kv vv,Iv_ key] [A,B] (fun v Γ=>∃ X e Y,(es=X++e::Y∧(X=[]∨e.1≤key)∧(∀ x∈X,x.1<e.1)∧∀ x∈Y,key<x.1∧e.1<x.1)∧v=Iv_ (X.length:Int)∧Γ=[A,B]):=by
 refine Cn.mono (S3 lf kv vv _ _ A B hA hB key (by simpa [kL] using h8)) ?_
 rintro v Γ ⟨i,hi,rfl,rfl⟩
 obtain ⟨X,e,Y,h1,h2,h3,h4,h5⟩:=Ni hs hne key
 obtain ⟨U,V,u1,u2,u3,u4⟩:=FS hs key
 have hF:FcI (kL es) key U.length:=by
  rw[u1]
  refine ⟨by simp,fun j x hj hx=> ?_,fun x hx=> ?_⟩
  ·simp only[kL,List.getElem?_map,List.getElem?_append_left hj] at hx
   cases h:U[j]? with
   | none=>rw[h] at hx;cases hx
   | some e=>rw[h] at hx;simp at hx;subst hx;exact u3 e (List.mem_of_getElem? h)
  ·simp only[kL,List.getElem?_map,List.getElem?_append_right (Nat.le_refl _),Nat.sub_self] at hx
   cases V with
   | nil=>simp at hx
   | cons e t=>simp at hx;subst hx;exact u4 e (by simp)
 obtain rfl:=hi.uniq hF
 refine ⟨X,e,Y,⟨h1,h3,h4,h5⟩,?_,rfl⟩
 rw[h2];unfold XT;rw[u2]
theorem XX {lf:Bool} {kv vv:Value} {X Y:List E} {e:E} {A B:Ae} (hA:Fl A kv (X++e::Y)) (hB:Fm B vv (X++e::Y)) (hck:CkN lf (kL (X++e::Y)) (vL (X++e::Y))) (hck2:CkN lf (kL (X++Y)) (vL (X++Y))):
  Cn prog 97 [CO lf kv vv,Iv_ (X.length:Int)] [A,B] (fun v Γ=>∃ v1 v2:Value,v= .tuple #[CO lf v1 v2,Iv_ 0]∧Γ=[gK v1 (X++Y),gV v2 (X++Y),A,B]):=
 N5 lf kv vv _ _ A B hA hB hck X.length (by simp[kL]) (kL (X++Y)) (vL (X++Y)) (by simp[kL,List.drop_append]) (by simp[vL,List.drop_append]) hck2
theorem V1 {lf:Bool} {kv vv:Value} {es:List E} {A B:Ae} (hA:Fl A kv es) (hB:Fm B vv es) (hck:CkN lf (kL es) (vL es)) (h8:es.length=8):
  Cn prog 138 [CO lf kv vv] [A,B] (fun v Γ=>∃ v1 v2 v3 v4:Value,v= .tuple #[CO lf v1 v2,CO lf v3 v4,Iv_ 0]∧Γ=[gK v1 (es.take 4),gV v2 (es.take 4),gK v3 (es.drop 4),gV v4 (es.drop 4),A,B]):=
 S4 lf kv vv _ _ A B hA hB hck (by simp[kL,h8]) (kL (es.take 4)) (vL (es.take 4)) (kL (es.drop 4)) (vL (es.drop 4)) (by simp[kL,h8,List.map_take]) (by simp[kL,vL,h8,List.map_take]) (by simp[kL,h8,List.map_drop]) (by simp[kL,vL,h8,List.map_drop])
theorem Tc {es1 es2:List E} (hs:Srt (es1++es2)):∀ x y:Int,(kL es1)[(kL es1).length - 1]? =some x→(kL es2)[0]? =some y→x<y:=fun x y hx hy=>by
 obtain ⟨a,ha,rfl⟩:=List.mem_map.1 (List.mem_of_getElem? hx)
 obtain ⟨b,hb,rfl⟩:=List.mem_map.1 (List.mem_of_getElem? hy)
 exact (Srt.app.1 hs).2.2 a ha b hb
variable {lf:Bool} {kv1 vv1 kv2 vv2:Value} {es1 es2:List E} {A1 B1 A2 B2:Ae}
theorem XY (hA1:Fl A1 kv1 es1) (hB1:Fm B1 vv1 es1) (hA2:Fl A2 kv2 es2) (hB2:Fm B2 vv2 es2) (hck1:CkN lf (kL es1) (vL es1)) (hck2:CkN lf (kL es2) (vL es2)) (hs:Srt (es1++es2)) (h8:es1.length+es2.length≤8):
  Cn prog 135 [CO lf kv1 vv1,CO lf kv2 vv2] [A1,B1,A2,B2] (fun v Γ=>∃ v1 v2:Value,v= .tuple #[CO lf v1 v2,Iv_ 0]∧Γ=[gK v1 (es1++es2),gV v2 (es1++es2),A1,B1,A2,B2]):=
 S5 lf kv1 vv1 _ _ A1 B1 hA1 hB1 kv2 vv2 _ _ A2 B2 hA2 hB2 hck1 hck2 (Tc hs) (by simpa [kL] using h8) (kL (es1++es2)) (vL (es1++es2)) (by simp[kL]) (by simp[vL])
theorem joinF_e (hA1:Fl A1 kv1 es1) (hB1:Fm B1 vv1 es1) (hA2:Fl A2 kv2 es2) (hB2:Fm B2 vv2 es2) (hck1:CkN lf (kL es1) (vL es1)) (hck2:CkN lf (kL es2) (vL es2)) (hs:Srt (es1++es2)) (h8:8<es1.length+es2.length):
  Cn prog 135 [CO lf kv1 vv1,CO lf kv2 vv2] [A1,B1,A2,B2] (fun v Γ=>v= .tuple #[CO false (.slice none 0 0) (.slice none 0 0),Iv_ 15]∧Γ=[A1,B1,A2,B2]):=
 S6 lf kv1 vv1 _ _ A1 B1 hA1 hB1 kv2 vv2 _ _ A2 B2 hA2 hB2 hck1 hck2 (Tc hs) (by simpa [kL] using h8)
abbrev EO (es1 es2:List E):Nat:=((es1++es2).length+1) / 2
theorem V2 (hA1:Fl A1 kv1 es1) (hB1:Fm B1 vv1 es1) (hA2:Fl A2 kv2 es2) (hB2:Fm B2 vv2 es2) (hck1:CkN lf (kL es1) (vL es1)) (hck2:CkN lf (kL es2) (vL es2)) (hs:Srt (es1++es2)) (h8:8<es1.length+es2.length):
  Cn prog 136 [CO lf kv1 vv1,CO lf kv2 vv2] [A1,B1,A2,B2] (fun v Γ=>∃ v1 v2 v3 v4:Value,v= .tuple #[CO lf v1 v2,CO lf v3 v4,Iv_ 0]∧Γ=[gK v1 ((es1++es2).take (EO es1 es2)),gV v2 ((es1++es2).take (EO es1 es2)),gK v3 ((es1++es2).drop (EO es1 es2)),gV v4 ((es1++es2).drop (EO es1 es2)),A1,B1,A2,B2]):=by
 have hk:kL es1++kL es2=kL (es1++es2):=by simp[kL]
 have hv:vL es1++vL es2=vL (es1++es2):=by simp[vL]
 have hl:(kL (es1++es2)).length=(es1++es2).length:=by simp[kL]
 exact S7 lf kv1 vv1 _ _ A1 B1 hA1 hB1 kv2 vv2 _ _ A2 B2 hA2 hB2 hck1 hck2 (Tc hs) (by simp[kL];omega) (kL (es1++es2)) (vL (es1++es2)) hk hv (kL ((es1++es2).take (EO es1 es2))) (vL ((es1++es2).take (EO es1 es2))) (kL ((es1++es2).drop (EO es1 es2))) (vL ((es1++es2).drop (EO es1 es2)))
  (by rw[hl];exact List.map_take.symm) (by rw[hl];exact List.map_take.symm) (by rw[hl];exact List.map_drop.symm) (by rw[hl];exact List.map_drop.symm)
end
section
open Go.RowKit
variable {Tb:Ae}
theorem Jx {N:Hm} {h:Nat} {lo hi:Int} {L es a b:List E} {key:Int} {val:Nat} {lf:Bool} (hs:Srt es) (hBd:Bd N h (putE key val es) hi L) (hr:Bt lo hi (putE key val es)) (hk:∀ e∈putE key val es,0≤e.1∧e.1<1048576) (hdup:(vals (putE key val es)).Nodup)
  (e:putE key val es=a++b) (a4:4≤a.length) (a5:a.length≤5) (b4:4≤b.length) (b5:b.length≤5):
  ∃ L1 L2,L=L1++L2∧(Bd N h a (nx b hi) L1∧Bd N h b hi L2)∧(Bt lo (nx b hi) a∧Bt (nx b hi) hi b∧lo<nx b hi∧nx b hi<hi)∧((Nd.mk lf a).Ok∧(Nd.mk lf b).Ok)∧(vals a).Nodup∧(vals b).Nodup:=by
 have hs2:=IR (k:=key) (v:=val) hs
 rw[e] at hBd hr hk hdup hs2
 obtain ⟨L1,L2,h1,h2,h3⟩:=Bd.app.1 hBd
 have ha:a≠[]:=fun q=>by rw[q] at a4;simp at a4
 have hb:b≠[]:=fun q=>by rw[q] at b4;simp at b4
 obtain ⟨s1,s2,_⟩:=Srt.app.1 hs2
 have hv:vals (a++b)=vals a++vals b:=by simp[vals]
 rw[hv,List.nodup_append] at hdup
 exact ⟨L1,L2,h1,⟨h2,h3⟩,MJ hs2 hr ha hb,⟨⟨s1,by dsimp only;omega,fun x hx=>hk x (by simp[hx]),fun _=>ha⟩,⟨s2,by dsimp only;omega,fun x hx=>hk x (by simp[hx]),fun _=>hb⟩⟩,hdup.1,hdup.2.1⟩
theorem KJ (a:Nat) (x y:List E) (Q:List Nat):(a::(vals (x++y)++Q)).Perm (vals y++(a::(vals x++Q))):=by
 have hv:vals (x++y)=vals x++vals y:=by simp[vals]
 rw[hv,List.append_assoc]
 have h1:(a::(vals x++(vals y++Q))).Perm (a::(vals y++(vals x++Q))):=List.Perm.cons _ (by
  rw[←List.append_assoc,←List.append_assoc];exact List.Perm.append_right _ List.perm_append_comm)
 exact h1.trans List.perm_middle.symm
theorem KK (r a:Nat) (x Q:List Nat):(r::(a::(x++Q))).Perm (a::(x++(r::Q))):=
 (List.Perm.swap _ _ _).trans (List.Perm.cons _ List.perm_middle.symm)
theorem EI {b:List E} {hi:Int} (h:4≤b.length):(kL b)[0]? =some (nx b hi):=by
 cases b with
 | nil=>simp at h
 | cons e t=>rfl
theorem If {t t1 t2:TS} {Q:List Nat} {a r h:Nat} {kr hi:Int} {x:List E} {L2:List E} (s1:St t t1 (a::(vals x++Q)) 1 1) (T1:Tr t1.N h r kr hi 4 L2) (s2:St t1 t2 (r::Q) 0 1):St t t2 Q 1 2∧Tr t2.N h r kr hi 4 L2:=
 ⟨s1.trans s2 (fun p hp=>by simp[hp]) (fun p hp=>by simp[hp]) (by omega) (by omega),s2.fr r (by simp) _ _ _ _ _ T1⟩
theorem Od {lf:Bool} {es:List E} (h:CkN lf (kL es) (vL es)) (hs:Srt es) (h4:0<(es.take 4).length):CkN lf (kL (es.take 4)) (vL (es.take 4))∧Srt (es.take 4):=by
 have e:=List.take_append_drop 4 es
 have hs':=hs
 rw[←e] at hs'
 have h8:es.length≤8:=by have:=h.l8;simpa [kL] using this
 refine ⟨CkN.of ⟨(Srt.app.1 hs').1,by simp;omega,fun x hx=> ?_,fun _ q=>by have q:es.take 4=[]:=q;rw[q] at h4;simp at h4⟩ (fun v hv=> ?_),(Srt.app.1 hs').1⟩
 ·exact h.k x.1 (List.mem_map_of_mem (List.mem_of_mem_take hx))
 ·obtain ⟨x,hx,rfl⟩:=List.mem_map.1 hv
  have:=h.v (x.2:Int) (List.mem_map.2 ⟨x,List.mem_of_mem_take hx,rfl⟩)
  omega
theorem Oe {lf:Bool} {es:List E} (h:CkN lf (kL es) (vL es)) (hs:Srt es) (h4:0<(es.drop 4).length):CkN lf (kL (es.drop 4)) (vL (es.drop 4))∧Srt (es.drop 4):=by
 have e:=List.take_append_drop 4 es
 have hs':=hs
 rw[←e] at hs'
 have h8:es.length≤8:=by have:=h.l8;simpa [kL] using this
 refine ⟨CkN.of ⟨(Srt.app.1 hs').2.1,by simp;omega,fun x hx=> ?_,fun _ q=>by have q:es.drop 4=[]:=q;rw[q] at h4;simp at h4⟩ (fun v hv=> ?_),(Srt.app.1 hs').2.1⟩
 ·exact h.k x.1 (List.mem_map_of_mem (List.mem_of_mem_drop hx))
 ·obtain ⟨x,hx,rfl⟩:=List.mem_map.1 hv
  have:=h.v (x.2:Int) (List.mem_map.2 ⟨x,List.mem_of_mem_drop hx,rfl⟩)
  omega
theorem V3 {es:List E} (hs:Srt es) (h8:es.length=8) {key:Int} {val:Nat} (hno:¬ Cr key es) (h:nx (es.drop 4) 0≤key):putE key val es=es.take 4++putE key val (es.drop 4)∧4≤(putE key val (es.drop 4)).length∧(putE key val (es.drop 4)).length≤5:=by
 obtain ⟨a,b,e,_,_,b4,b5,hu,_⟩:=MI (v:=val) hs h8 hno
 obtain ⟨rfl,rfl⟩:=hu h
 exact ⟨e,b4,b5⟩
theorem V4 {es:List E} (hs:Srt es) (h8:es.length=8) {key:Int} {val:Nat} (hno:¬ Cr key es) (h:key<nx (es.drop 4) 0):putE key val es=putE key val (es.take 4)++es.drop 4∧4≤(putE key val (es.take 4)).length∧(putE key val (es.take 4)).length≤5:=by
 obtain ⟨a,b,e,a4,a5,_,_,_,hd⟩:=MI (v:=val) hs h8 hno
 obtain ⟨rfl,rfl⟩:=hd h
 exact ⟨e,a4,a5⟩
theorem XZ (pp mb n:Nat) (o:TB) (t:TS) (Q:List Nat) (a:Nat) (lf:Bool) (kv vv:Value) (es:List E) (A B:Ae) (hA:∀ h,A h→rdH 1 kv (kL es).length ((kL es).map Iv_) h) (hB:∀ h,B h→rdH 1 vv (vL es).length ((vL es).map Iv_) h) (key:Int) (val:Nat) (hkv:(0≤key∧key<1048576)∧1≤val∧val<1024) (hck:CkN lf (kL es) (vL es)) (hs:Srt es) (h:Nat) (lo hi:Int) (m:Nat) (L:List E) (hBd:Bd t.N h (putE key val es) hi L) (hlf:lf=decide (h=0)) (hrg:Bt lo hi (putE key val es)) (hdup:(vals (putE key val es)).Nodup) (hC:t.C a=1) (hN:t.N a=none) (hk:t.k<39) (hm:m≤(putE key val es).length) (hok2:(Nd.mk lf (putE key val es)).Ok) (hfit:Cr key es∨es.length<8):Cn prog 101 [Pt_ pp,Iv_ (a:Int),.agg #[.bool lf,kv,vv],Iv_ key,Iv_ (val:Int)] [trA Tb pp mb n o (some (t,a::(vals (putE key val es)++Q))),A,B] (fun v Γ=>∃ t2:TS,(St t t2 Q 0 1∧Tr t2.N h a lo hi m L)∧v= .tuple #[.agg #[Iv_ (a:Int),Iv_ 0,Iv_ 0],Iv_ 0]∧Γ=[trA Tb pp mb n o (some (t2,a::Q)),A,B]):=by
 intro z R w H;replace H:=H.l3;obtain ⟨ka,kc,rfl⟩:=H.says 1 rfl (fun h q=>(hA h q).slc);obtain ⟨va,vc,rfl⟩:=H.says 2 rfl (fun h q=>(hB h q).slc);refine Ad func101 rfl ntmps101 rfl (Za 2 [] H rfl ?_);intro b1 w H;refine Za 0 [] H rfl ?_;intro b2 w H;refine Z2 8 [1,3] H rfl (Ar rfl (call137 _) (Pd hA hB hck hs key val hkv hfit) H.f4.f4 ?_);rintro _ w _ ⟨v3,v4,rfl,rfl⟩ H;replace H:=H.l7;have sv3:=H.says 0 rfl (fun h q=>q.slc)
 have sv4:=H.says 1 rfl (fun h q=>q.slc)
 refine Za 3 [] H rfl ?_;intro b5 w H;refine AC rfl rfl (Ai 0 H rfl rfl rfl rfl (vs:=[.bool lf,v3,v4]) rfl (Ac rfl (Ac sv3.one (Ac sv4.one Aw))) (by kernel_rfl) (by simp) (out:=[.bool lf,v3,v4]) rfl) ?_;rintro w H;replace H:=H.l8;refine Z2 18 [3,0,3] H rfl (Ar rfl (call98 _) (E3 pp mb n o t Q a lf _ _ (putE key val es) _ _ (fun h q=>q.rd) (fun h q=>q.rd) h lo hi m L hBd hlf hrg hm hok2 hdup hC hN (by omega)) H.f2.f2.f7 ?_);rintro _ w _ ⟨t2,⟨hSt2,hT2,hC2,hN2⟩,rfl,rfl⟩ H;refine Z4 5 [6] H rfl ?_;intro w H;refine Zl [6,3] H rfl ?_;exact ⟨_,⟨t2,⟨hSt2,hT2⟩,rfl,rfl⟩,H.perm 8 [0,4,5] rfl rfl⟩
set_option maxHeartbeats 2000000 in
theorem X0 (pp mb n:Nat) (o:TB) (t:TS) (Q:List Nat) (a:Nat) (lf:Bool) (kv vv:Value) (es:List E) (A B:Ae) (hA:∀ h,A h→rdH 1 kv (kL es).length ((kL es).map Iv_) h) (hB:∀ h,B h→rdH 1 vv (vL es).length ((vL es).map Iv_) h) (key:Int) (val:Nat) (hkv:(0≤key∧key<1048576)∧1≤val∧val<1024) (hck:CkN lf (kL es) (vL es)) (hs:Srt es) (h:Nat) (lo hi:Int) (m:Nat) (L:List E) (hBd:Bd t.N h (putE key val es) hi L) (hlf:lf=decide (h=0)) (hrg:Bt lo hi (putE key val es)) (hdup:(vals (putE key val es)).Nodup) (hC:t.C a=1) (hN:t.N a=none) (hk:t.k<39) (hkr:∀ e∈putE key val es,0≤e.1∧e.1<1048576) (hno:¬ Cr key es) (h8:es.length=8):Cn prog 101 [Pt_ pp,Iv_ (a:Int),.agg #[.bool lf,kv,vv],Iv_ key,Iv_ (val:Int)] [trA Tb pp mb n o (some (t,a::(vals (putE key val es)++Q))),A,B] (fun v Γ=>(cnt t.F 0 1024=0∧∃ s:TS×List Nat,v= .tuple #[.agg #[Iv_ 0,Iv_ 0,Iv_ 0],Iv_ 20]∧Γ=[trA Tb pp mb n o (some s),A,B])∨∃ (t2:TS) (kr:Int) (r:Nat) (L1 L2:List E),(St t t2 Q 1 2∧L=L1++L2∧lo<kr∧kr<hi∧Tr t2.N h a lo kr 4 L1∧Tr t2.N h r kr hi 4 L2)∧v= .tuple #[.agg #[Iv_ (a:Int),Iv_ kr,Iv_ (r:Int)],Iv_ 0]∧Γ=[trA Tb pp mb n o (some (t2,a::r::Q)),A,B]):=by
 intro z R w H;replace H:=H.l3;obtain ⟨ka,kc,rfl⟩:=H.says 1 rfl (fun h q=>(hA h q).slc);obtain ⟨va,vc,rfl⟩:=H.says 2 rfl (fun h q=>(hB h q).slc);refine Ad func101 rfl ntmps101 rfl (Za 2 [] H rfl ?_);intro b1 w H;refine Za 0 [] H rfl ?_;intro b2 w H;refine Z2 8 [1,3] H rfl (z_E_ rfl (call137 _) (XW hA hB hck hs key val hkv hno h8) H.f4.f4 ?_);intro w H;refine Za 3 [] H rfl ?_;intro b3 w H;refine Z4 27 [0,4,4,4,3] H rfl ?_;intro w H;refine Ar rfl (call138 _) (V1 hA hB hck h8) H.f2.f2 ?_;rintro _ w _ ⟨v4,v5,v6,v7,rfl,rfl⟩ H;replace H:=H.l10;have sv4:=H.says 0 rfl (fun h q=>q.slc)
 have sv5:=H.says 1 rfl (fun h q=>q.slc)
 have sv6:=H.says 2 rfl (fun h q=>q.slc)
 have sv7:=H.says 3 rfl (fun h q=>q.slc)
 refine Za 4 [] H rfl ?_;intro b8 w H;refine Za 0 [] H rfl ?_;intro b9 w H;refine AC rfl rfl (Ai 1 H rfl rfl rfl rfl (vs:=[.bool lf,v4,v5]) rfl (Ac rfl (Ac sv4.one (Ac sv5.one Aw))) (by kernel_rfl) (by simp) (out:=[.bool lf,v4,v5]) rfl) ?_;rintro w H;replace H:=H.l12;refine AC rfl rfl (Ai 0 H rfl rfl rfl rfl (vs:=[.bool lf,v6,v7]) rfl (Ac rfl (Ac sv6.one (Ac sv7.one Aw))) (by kernel_rfl) (by simp) (out:=[.bool lf,v6,v7]) rfl) ?_;rintro w H;replace H:=H.l12;refine Z0 15 [4] rfl ?_;obtain ⟨ak,cc10,rfl⟩:=sv6;have hatak:=(H.rd 4 rfl (fun h q=>q.rd)).at (j:=0) (u:=Iv_ (nx (es.drop 4) 0)) (by rw[List.getElem?_map,EI (by rw[List.length_drop];omega)];rfl)
 refine Z2 4 [1,0,0] H rfl (Ab rfl (Ao rfl (z:=1) (j:=0) (r:=0) (by kernel_rfl) rfl rfl rfl (by simp only[List.length_map,List.length_drop];omega) hatak (by omega)) (Ab rfl (Az rfl rfl (by kernel_rfl) (Av hatak)) (Z0 3 [0] rfl (Af rfl (fun h1=> ?_) (fun h1=> ?_)))))
 ·obtain ⟨hup,hl4,hl5⟩:=V3 (val:=val) hs h8 hno h1;refine Z2 4 [0,3] H rfl (Ar rfl (call137 _) (Pd (fun h q=>q.rd) (fun h q=>q.rd) (Oe hck hs (by simp;omega)).1 (Oe hck hs (by simp;omega)).2 key val hkv (.inr (by simp;omega))) H.f5.f5 ?_);rintro _ w _ ⟨v11,v12,rfl,rfl⟩ H;replace H:=H.l14;have sv11:=H.says 0 rfl (fun h q=>q.slc)
  have sv12:=H.says 1 rfl (fun h q=>q.slc)
  refine Zc 3 rfl (AC rfl rfl (Ai 4 H rfl rfl rfl rfl (vs:=[.bool lf,v11,v12]) rfl (Ac rfl (Ac sv11.one (Ac sv12.one Aw))) (by kernel_rfl) (by simp) (out:=[.bool lf,v11,v12]) rfl) ?_);rintro w H;replace H:=H.l14;refine Z0 14 [4] rfl ?_;obtain ⟨L1,L2,hL,⟨hB1,hB2⟩,⟨hr1,hr2,hlo,hhi⟩,⟨hk1,hk2⟩,hd1,hd2⟩:=Jx (lf:=lf) hs hBd hrg hkr hdup hup (by simp;omega) (by simp;omega) hl4 hl5;replace H:=(H.mono 13 (B:=trA Tb pp mb n o (some (t,vals (putE key val (es.drop 4))++(a::(vals (es.take 4)++Q))))) rfl (fun h q=>q.perm (by rw[hup];exact KJ a _ _ Q))).l14
  refine Z2 3 [4,3] H rfl (Ar rfl (call62 _) (GC pp mb n o t (a::(vals (es.take 4)++Q)) lf _ _ (putE key val (es.drop 4)) _ _ (fun h q=>q.rd) (fun h q=>q.rd) h (nx (putE key val (es.drop 4)) hi) hi 4 L2 hB2 hlf hr2 hl4 hk2 hd2 (by omega)) H.f1.f1.f13 ?_);rintro _ w _ (⟨hnone,rfl,rfl⟩|⟨t1,r,⟨hSt1,hT1,hq1⟩,rfl,rfl⟩) H'
  ·have H:=H'.l14;refine Z4 24 [3,12] H rfl ?_;intro w H;refine Zl [12,3] H rfl ?_;exact ⟨_,.inl ⟨hnone,_,rfl,rfl⟩,H.perm 14 [0,9,10] rfl rfl⟩
  ·have H:=H'.l14;have hca:=hq1 a (by simp)
   refine Z0 18 [4] rfl ?_;obtain ⟨bk,cc13,rfl⟩:=sv11;have hatbk:=(H.rd 1 rfl (fun h q=>q.rd)).at (j:=0) (u:=Iv_ (nx (putE key val (es.drop 4)) hi)) (by rw[List.getElem?_map,EI hl4];rfl)
   replace H:=(H.mono 0 (B:=trA Tb pp mb n o (some (t1,a::(vals (es.take 4)++(r::Q))))) rfl (fun h q=>q.perm (KK r a _ Q))).l14
   replace H:=H.f1.f5.f6;refine AK (Sep z (blk b8 [.bool lf,v4,v5] 92::blk b9 [.bool lf,.slice bk ((kL (putE key val (es.drop 4))).length) cc13,v12] 92::grow 3 1 (.slice bk ((kL (putE key val (es.drop 4))).length) cc13) ((kL (putE key val (es.drop 4))).length) ((kL (putE key val (es.drop 4))).map Iv_)::R)) 13 rfl (by kernel_rfl) (Bc H fun w H'=> ?_)
   have H:=H'.l14;refine AZ [0,1,2] [1,1,0] [] (by exact (H.pick 14 [0,1,2] rfl)) rfl (by kernel_rfl) rfl (BC 3 rfl (by kernel_rfl) (by kernel_rfl) (by kernel_rfl) rfl rfl rfl (Ao rfl (z:=1) (j:=0) (r:=0) (by kernel_rfl) rfl rfl rfl (by simp only[List.length_map];first|omega|(rw[List.length_drop];omega)) hatbk (by omega)) (H.pick 14 [0,1,2] rfl) (BC 4 rfl (by kernel_rfl) (by kernel_rfl) (by kernel_rfl) rfl rfl rfl (Az rfl rfl (by kernel_rfl) (fun _ hx'=>(hx'.rd 2 rfl (fun h q=>q.rd)).at (j:=0) (u:=Iv_ (nx (putE key val (es.drop 4)) hi)) (by rw[List.getElem?_map,EI hl4];rfl))) (H.pick 14 [0,1,2] rfl) ?_));refine AZ [5,6,7,8,9] [0,3] [] (by exact (H.pick 14 [0,1,2] rfl)) rfl (by kernel_rfl) rfl (AE [10] (by kernel_rfl) (by simp) (AB (B0 rfl rfl rfl rfl rfl rfl (fun w=>call98 _ w) (E3 pp mb n o t1 (r::Q) a lf _ _ (es.take 4) _ _ (fun h q=>q.rd) (fun h q=>q.rd) h lo (nx (putE key val (es.drop 4)) hi) 4 L1 (hSt1.bd (fun v hv=>by simp[hv]) hB1) hlf hr1 (by simp;omega) hk1 hd1 (hca.2.trans hC) (hca.1.trans hN) (by have:=hSt1.k;omega)) H.f8.f8.f5 rfl ?_)));rintro _ w _ ⟨t2,⟨hSt2,hT2,hC2,hN2⟩,rfl,rfl⟩ H;replace H:=H.l14;refine Ax (H.pick 14 [3,4,5] rfl) (AE [11] (by kernel_rfl) (by simp) (AB (Bj rfl rfl rfl (Ai 12 H rfl rfl rfl rfl (vs:=[Iv_ (a:Int),Iv_ (nx (putE key val (es.drop 4)) hi),Iv_ (r:Int)]) rfl (by simp[u8,u32,Value.oneCell']) (by kernel_rfl) (by simp) (out:=[Iv_ (a:Int),Iv_ (nx (putE key val (es.drop 4)) hi),Iv_ (r:Int)]) rfl) ?_)))
   rintro w H;replace H:=H.l14;refine Ax (H.pick 14 [3,4,5] rfl) (AZ [12] [] [] (by exact (H.pick 14 [3,4,5] rfl)) rfl (by kernel_rfl) rfl (a_done (by kernel_rfl) (gn (Zc 2 rfl (Zl [12,3] H rfl ?_)))));exact ⟨_,.inr ⟨t2,nx (putE key val (es.drop 4)) hi,r,L1,L2,⟨(If hSt1 hT1 hSt2).1,hL,hlo,hhi,hT2,(If hSt1 hT1 hSt2).2⟩,rfl,rfl⟩,H.perm 14 [0,9,10] rfl rfl⟩
 ·obtain ⟨hdn,hl4,hl5⟩:=V4 (val:=val) hs h8 hno (by omega);refine Z2 4 [1,3] H rfl (Ar rfl (call137 _) (Pd (fun h q=>q.rd) (fun h q=>q.rd) (Od hck hs (by simp;omega)).1 (Od hck hs (by simp;omega)).2 key val hkv (.inr (by simp;omega))) H.f3.f3 ?_);rintro _ w _ ⟨v14,v15,rfl,rfl⟩ H;replace H:=H.l14;have sv14:=H.says 0 rfl (fun h q=>q.slc)
  have sv15:=H.says 1 rfl (fun h q=>q.slc)
  refine Zc 3 rfl (AC rfl rfl (Ai 5 H rfl rfl rfl rfl (vs:=[.bool lf,v14,v15]) rfl (Ac rfl (Ac sv14.one (Ac sv15.one Aw))) (by kernel_rfl) (by simp) (out:=[.bool lf,v14,v15]) rfl) ?_);rintro w H;replace H:=H.l14;refine Z0 14 [4] rfl ?_;obtain ⟨L1,L2,hL,⟨hB1,hB2⟩,⟨hr1,hr2,hlo,hhi⟩,⟨hk1,hk2⟩,hd1,hd2⟩:=Jx (lf:=lf) hs hBd hrg hkr hdup hdn hl4 hl5 (by simp;omega) (by simp;omega);replace H:=(H.mono 13 (B:=trA Tb pp mb n o (some (t,vals (es.drop 4)++(a::(vals (putE key val (es.take 4))++Q))))) rfl (fun h q=>q.perm (by rw[hdn];exact KJ a _ _ Q))).l14
  refine Z2 3 [4,3] H rfl (Ar rfl (call62 _) (GC pp mb n o t (a::(vals (putE key val (es.take 4))++Q)) lf _ _ (es.drop 4) _ _ (fun h q=>q.rd) (fun h q=>q.rd) h (nx (es.drop 4) hi) hi 4 L2 hB2 hlf hr2 (by simp;omega) hk2 hd2 (by omega)) H.f7.f7.f13 ?_);rintro _ w _ (⟨hnone,rfl,rfl⟩|⟨t1,r,⟨hSt1,hT1,hq1⟩,rfl,rfl⟩) H'
  ·have H:=H'.l14;refine Z4 24 [3,12] H rfl ?_;intro w H;refine Zl [12,3] H rfl ?_;exact ⟨_,.inl ⟨hnone,_,rfl,rfl⟩,H.perm 14 [0,9,10] rfl rfl⟩
  ·have H:=H'.l14;have hca:=hq1 a (by simp)
   refine Z0 18 [4] rfl ?_;have hatbk:=(H.rd 1 rfl (fun h q=>q.rd)).at (j:=0) (u:=Iv_ (nx (es.drop 4) hi)) (by rw[List.getElem?_map,EI (by simp;omega)];rfl)
   replace H:=(H.mono 0 (B:=trA Tb pp mb n o (some (t1,a::(vals (putE key val (es.take 4))++(r::Q))))) rfl (fun h q=>q.perm (KK r a _ Q))).l14
   replace H:=H.f1.f7.f8;refine AK (Sep z (blk b8 [.bool lf,v14,v15] 92::blk b9 [.bool lf,.slice ak ((kL (es.drop 4)).length) cc10,v7] 92::grow 3 1 (.slice ak ((kL (es.drop 4)).length) cc10) ((kL (es.drop 4)).length) ((kL (es.drop 4)).map Iv_)::R)) 13 rfl (by kernel_rfl) (Bc H fun w H'=> ?_)
   have H:=H'.l14;refine AZ [0,1,2] [1,1,0] [] (by exact (H.pick 14 [0,1,2] rfl)) rfl (by kernel_rfl) rfl (BC 3 rfl (by kernel_rfl) (by kernel_rfl) (by kernel_rfl) rfl rfl rfl (Ao rfl (z:=1) (j:=0) (r:=0) (by kernel_rfl) rfl rfl rfl (by simp only[List.length_map];first|omega|(rw[List.length_drop];omega)) hatak (by omega)) (H.pick 14 [0,1,2] rfl) (BC 4 rfl (by kernel_rfl) (by kernel_rfl) (by kernel_rfl) rfl rfl rfl (Az rfl rfl (by kernel_rfl) (fun _ hx'=>(hx'.rd 2 rfl (fun h q=>q.rd)).at (j:=0) (u:=Iv_ (nx (es.drop 4) hi)) (by rw[List.getElem?_map,EI (by simp;omega)];rfl))) (H.pick 14 [0,1,2] rfl) ?_));refine AZ [5,6,7,8,9] [0,3] [] (by exact (H.pick 14 [0,1,2] rfl)) rfl (by kernel_rfl) rfl (AE [10] (by kernel_rfl) (by simp) (AB (B0 rfl rfl rfl rfl rfl rfl (fun w=>call98 _ w) (E3 pp mb n o t1 (r::Q) a lf _ _ (putE key val (es.take 4)) _ _ (fun h q=>q.rd) (fun h q=>q.rd) h lo (nx (es.drop 4) hi) 4 L1 (hSt1.bd (fun v hv=>by simp[hv]) hB1) hlf hr1 hl4 hk1 hd1 (hca.2.trans hC) (hca.1.trans hN) (by have:=hSt1.k;omega)) H.f6.f6.f5 rfl ?_)));rintro _ w _ ⟨t2,⟨hSt2,hT2,hC2,hN2⟩,rfl,rfl⟩ H;replace H:=H.l14;refine Ax (H.pick 14 [3,4,5] rfl) (AE [11] (by kernel_rfl) (by simp) (AB (Bj rfl rfl rfl (Ai 12 H rfl rfl rfl rfl (vs:=[Iv_ (a:Int),Iv_ (nx (es.drop 4) hi),Iv_ (r:Int)]) rfl (by simp[u8,u32,Value.oneCell']) (by kernel_rfl) (by simp) (out:=[Iv_ (a:Int),Iv_ (nx (es.drop 4) hi),Iv_ (r:Int)]) rfl) ?_)))
   rintro w H;replace H:=H.l14;refine Ax (H.pick 14 [3,4,5] rfl) (AZ [12] [] [] (by exact (H.pick 14 [3,4,5] rfl)) rfl (by kernel_rfl) rfl (a_done (by kernel_rfl) (gn (Zc 2 rfl (Zl [12,3] H rfl ?_)))));exact ⟨_,.inr ⟨t2,nx (es.drop 4) hi,r,L1,L2,⟨(If hSt1 hT1 hSt2).1,hL,hlo,hhi,hT2,(If hSt1 hT1 hSt2).2⟩,rfl,rfl⟩,H.perm 14 [0,9,10] rfl rfl⟩
end
section
open Go.RowKit
variable {Tb:Ae}
theorem Bg (X Y:List E):vals (X++Y)=vals X++vals Y:=by simp[vals]
theorem BA (e:E) (Y:List E):vals (e::Y)=e.2::vals Y:=rfl
theorem V5 (key:Int) (val:Nat) (es:List E):putE key val es≠[]:=by
 cases es with
 | nil=>simp[putE]
 | cons e t=>simp only[putE];split;simp;split<;>simp
theorem F9 {es:List E} (hs:Srt es) {key:Int} (val:Nat) (hno:¬ Cr key es):(vals (putE key val es)).Perm (val::vals es)∧(putE key val es).length=es.length+1:=by
 rcases key_split hs key with ⟨X,v,Y,rfl,_⟩|⟨_,X,Y,rfl,h1,h2⟩
 ·exact absurd ⟨v,by simp⟩ hno
 ·rw[putE_new h1 h2,Bg,Bg,BA]
  exact ⟨List.perm_middle,by simp;omega⟩
theorem IT {es:List E} (hs:Srt es) (key:Int) (val:Nat):es.length≤(putE key val es).length∧(putE key val es).length≤es.length+1:=by
 rcases key_split hs key with ⟨X,v,Y,rfl,h1⟩|⟨h0,X,Y,e,h1,h2⟩
 ·rw[Dl _ h1];simp
 ·have:=(F9 hs val h0).2;omega
theorem MO {es:List E} (hs:Srt es) {lo hi key:Int} (val:Nat) (hr:Bt lo hi es) (hk:lo≤key∧key<hi):Bt lo hi (putE key val es):=fun x hx=>by
 rcases (putE_mem hs x).1 hx with rfl|⟨h,_⟩
 ·exact hk
 ·exact hr x h
theorem Tr.ne {N:Hm} {h r:Nat} {lo hi:Int} {m:Nat} {L:List E} (t:Tr N h r lo hi m L) (hm:1≤m):L≠[]:=by
 induction h generalizing r lo hi m L with
 | zero=>
  obtain ⟨es,_,h2,_,_,rfl,_⟩:=t
  intro q;rw[q] at h2;simp at h2;omega
 | succ h ih=>
  obtain ⟨es,_,h2,_,_,h5⟩:=t
  cases es with
  | nil=>simp at h2;omega
  | cons e t=>
   obtain ⟨L1,L2,rfl,h6,_⟩:=h5
   intro q
   exact ih h6 (by omega) (List.append_eq_nil_iff.1 q).1
theorem Sq.nodup {N:Hm} {h:Nat} {es:List E} {hi:Int} {L:List E} (q:Sq (fun c a b L=>Tr N h c a b 4 L) es hi L) (hs:Srt es) (hr:∀ e∈es,e.1<hi):(vals es).Nodup:=by
 induction es generalizing L with
 | nil=>simp[vals]
 | cons e t ih=>
  obtain ⟨L1,L2,rfl,h1,h2⟩:=q
  obtain ⟨s1,s2⟩:=Srt.cons.1 hs
  have hr2:∀ x∈t,x.1<hi:=fun x hx=>hr x (by simp[hx])
  rw[BA,List.nodup_cons]
  refine ⟨fun hm=> ?_,ih h2 s2 hr2⟩
  obtain ⟨x,hx,hxe⟩:=List.mem_map.1 hm
  obtain ⟨A,B,rfl⟩:=List.append_of_mem hx
  obtain ⟨_,Lc,_,_,_,h3,_⟩:=Sq.at h2
  rw[hxe] at h3
  obtain ⟨_,rfl⟩:=h1.uniq h3
  have hne:=h1.ne (by omega)
  obtain ⟨y,u,rfl⟩:=List.exists_cons_of_ne_nil hne
  have a1:=h1.srt.2 y (by simp)
  have a2:=h3.srt.2 y (by simp)
  have a3:nx (A++x::B) hi≤x.1:=by
   cases A with
   | nil=>exact Int.le_refl _
   | cons z A=>exact Int.le_of_lt ((Srt.cons.1 s2).1 x (by simp))
  omega
theorem Bd.nodup {N:Hm} {h:Nat} {es:List E} {hi:Int} {L:List E} (q:Bd N (h+1) es hi L) (hs:Srt es) (hr:∀ e∈es,e.1<hi):(vals es).Nodup:=Sq.nodup q hs hr
theorem X1 {N:Hm} {h:Nat} {lo hi:Int} {L X Y:List E} {e:E} {key:Int} (val:Nat) (hs:Srt (X++e::Y)) (hr:Bt lo hi (X++e::Y)) (hB:Bd N (h+1) (X++e::Y) hi L) (hX:X=[]∨e.1≤key) (hY:∀ x∈Y,key<x.1∧e.1<x.1) (hk:lo≤key∧key<hi):
  ∃ L0 Lc L2,(Sq (fun c a b L=>Tr N h c a b 4 L) X (min e.1 key) L0∧Tr N h e.2 (min e.1 key) (nx Y hi) 4 Lc∧Sq (fun c a b L=>Tr N h c a b 4 L) Y hi L2)∧L=L0++(Lc++L2)∧putE key val L=L0++(putE key val Lc++L2)∧(lo≤min e.1 key∧min e.1 key≤key∧key<nx Y hi∧nx Y hi≤hi):=by
 obtain ⟨L0,Lc,L2,rfl,h1,h2,h3⟩:=Sq.at hB
 have he:=hr e (by simp)
 have hn:=T3 (fun x hx=>(hY x hx).1) hk.2
 have hn2:nx Y hi≤hi:=Pb (fun x hx=>(hr x (by simp[hx])).2)
 obtain ⟨s1,s2⟩:=Sq.sides hs (fun x hx=>(hr x hx).2) h1 h3 hX (fun x hx=>(hY x hx).1) hk.2
 refine ⟨L0,Lc,L2,⟨h1.nilK ?_,h2.mono (by omega) (Int.le_refl _) (Nat.le_refl _),h3⟩,rfl,?_,by omega,by omega,hn,hn2⟩
 ·rcases hX with q|q
  ·exact .inl q
  ·exact .inr (by omega)
 ·rw[putE_lt _ s1,N9 _ s2]
theorem IU {lo hi:Int} {X Y:List E} {e:E} {k1:Int} (c:Nat) (hs:Srt (X++e::Y)) (hr:Bt lo hi (X++e::Y)) (hX:X=[]∨k1=e.1) (hk:k1≤e.1) (hlo:lo≤k1):Srt (X++(k1,c)::Y)∧Bt lo hi (X++(k1,c)::Y):=by
 obtain ⟨s1,s2,s3⟩:=Srt.app.1 hs
 obtain ⟨s4,s5⟩:=Srt.cons.1 s2
 refine ⟨Srt.app.2 ⟨s1,Srt.cons.2 ⟨fun x hx=>by have:=s4 x hx;dsimp only;omega,s5⟩,fun a ha b hb=> ?_⟩,fun x hx=> ?_⟩
 ·rcases List.mem_cons.1 hb with rfl|hb
  ·rcases hX with rfl|rfl
   ·simp at ha
   ·exact s3 a ha e (by simp)
  ·exact s3 a ha b (by simp[hb])
 ·rcases List.mem_append.1 hx with hx|hx
  ·exact hr x (by simp[hx])
  ·rcases List.mem_cons.1 hx with rfl|hx
   ·have:=hr e (by simp);dsimp only;omega
   ·exact hr x (by simp[hx])
theorem Td {lo hi:Int} {X Y:List E} {k1 kr:Int} {c r:Nat} (hs:Srt (X++(k1,c)::Y)) (hk:k1<kr) (hn:kr<nx Y hi) (hr:Bt lo hi (X++(k1,c)::Y)) (hhi:nx Y hi≤hi):putE kr r (X++(k1,c)::Y)=X++(k1,c)::(kr,r)::Y∧¬ Cr kr (X++(k1,c)::Y)∧lo≤kr∧kr<hi:=by
 obtain ⟨s1,s2,s3⟩:=Srt.app.1 hs
 obtain ⟨s4,s5⟩:=Srt.cons.1 s2
 have h1:∀ x∈X++[(k1,c)],x.1<kr:=fun x hx=>by
  rcases List.mem_append.1 hx with hx|hx
  ·have:=s3 x hx (k1,c) (by simp);dsimp only at this;omega
  ·simp at hx;subst hx;exact hk
 have h2:∀ x∈Y,kr<x.1:=fun x hx=>by
  cases Y with
  | nil=>simp at hx
  | cons y t=>
   simp only[nx] at hn
   rcases List.mem_cons.1 hx with rfl|hx
   ·exact hn
   ·have:=(Srt.cons.1 s5).1 x hx;omega
 have e:X++(k1,c)::Y=(X++[(k1,c)])++Y:=by simp
 refine ⟨by rw[e,putE_new h1 h2];simp,?_,by have:=(hr (k1,c) (by simp)).1;dsimp only at this;omega,by omega⟩
 rintro ⟨v,hv⟩
 rw[e] at hv
 rcases List.mem_append.1 hv with hv|hv
 ·have:=h1 _ hv;dsimp only at this;omega
 ·have:=h2 _ hv;dsimp only at this;omega
theorem KR {es:List E} (hs:Srt es) {key:Int} {val c:Nat} {Q:List Nat} (hno:¬ Cr key es):(c::(vals es++(val::Q))).Perm (c::(vals (putE key val es)++Q)):=
 List.Perm.cons _ (List.perm_middle.trans (List.Perm.append_right Q (F9 hs val hno).1.symm))
theorem KS {X Y:List E} {key:Int} {val v0 c:Nat} {Q:List Nat} (h:∀ e∈X,e.1<key):(c::(vals (X++(key,v0)::Y)++(val::Q))).Perm (v0::(c::(vals (putE key val (X++(key,v0)::Y))++Q))):=by
 rw[Dl _ h,Bg,Bg,BA,BA]
 have h1:(vals X++v0::vals Y++val::Q).Perm (v0::(vals X++vals Y++val::Q)):=by
  have:(vals X++v0::vals Y).Perm (v0::(vals X++vals Y)):=List.perm_middle
  exact List.Perm.append_right _ this
 have h2:(vals X++vals Y++val::Q).Perm (vals X++val::vals Y++Q):=by
  have a:(vals X++vals Y++val::Q).Perm (val::(vals X++vals Y++Q)):=List.perm_middle
  have b:(vals X++val::vals Y++Q).Perm (val::(vals X++vals Y++Q)):=List.Perm.append_right Q List.perm_middle
  exact a.trans b.symm
 exact ((List.Perm.cons c h1).trans (List.Perm.swap _ _ _)).trans (List.Perm.cons _ (List.Perm.cons _ h2))
theorem V6 {X Y:List E} {e:E} {c val:Nat} {Q:List Nat} :(c::(vals (X++e::Y)++(val::Q))).Perm (e.2::val::(c::(vals X++(vals Y++Q)))):=by
 rw[Bg,BA]
 have h1:(vals X++e.2::vals Y++val::Q).Perm (e.2::val::(vals X++(vals Y++Q))):=by
  have a:(vals X++e.2::vals Y++val::Q).Perm (e.2::(vals X++vals Y++val::Q)):=List.Perm.append_right (val::Q) List.perm_middle
  have b:(vals X++vals Y++val::Q).Perm (val::(vals X++vals Y++Q)):=List.perm_middle
  rw[←List.append_assoc]
  exact a.trans (List.Perm.cons _ b)
 exact (List.Perm.cons c h1).trans ((List.Perm.swap _ _ _).trans (List.Perm.cons _ (List.Perm.swap _ _ _)))
theorem MP {X Y:List E} {k1:Int} {c c2:Nat} {Q:List Nat} :(c2::(c::(vals X++(vals Y++Q)))).Perm (c::(vals (X++(k1,c2)::Y)++Q)):=by
 rw[Bg,BA]
 refine (List.Perm.swap _ _ _).trans (List.Perm.cons _ ?_)
 have:(vals X++c2::vals Y++Q).Perm (c2::(vals X++vals Y++Q)):=List.Perm.append_right Q List.perm_middle
 rw[←List.append_assoc]
 exact this.symm
theorem QU {X Y:List E} {k1 kr:Int} {c c2 r:Nat} {Q:List Nat} :(c2::r::(c::(vals X++(vals Y++Q)))).Perm (c::(vals (X++(k1,c2)::(kr,r)::Y)++Q)):=by
 have h1:(r::(c::(vals X++(vals Y++Q)))).Perm (c::(vals (X++(kr,r)::Y)++Q)):=MP
 refine (List.Perm.cons c2 h1).trans ((List.Perm.swap _ _ _).trans (List.Perm.cons _ ?_))
 rw[Bg,Bg,BA,BA,BA]
 have:(vals X++c2::(r::vals Y)++Q).Perm (c2::(vals X++(r::vals Y)++Q)):=List.Perm.append_right Q List.perm_middle
 exact this.symm
theorem Te {N:Hm} {es:List E} {lo hi:Int} {key:Int} {val:Nat} {b:List UInt8} (hs:Srt es) (hr:Bt lo hi es) (hk:lo≤key∧key<hi) (h:∀ e∈es,∃ b,N e.2=some (.dt b)) (hv:N val=some (.dt b)) (hnd:(vals es).Nodup) (hnv:val∉vals es):
  Bd N 0 (putE key val es) hi (putE key val es)∧Bt lo hi (putE key val es)∧(vals (putE key val es)).Nodup:=by
 refine ⟨⟨rfl,fun e he=> ?_⟩,MO hs val hr hk,?_⟩
 ·rcases (putE_mem hs e).1 he with rfl|⟨h1,_⟩
  ·exact ⟨b,hv⟩
  ·exact h e h1
 ·rcases key_split hs key with ⟨X,v,Y,rfl,h1⟩|⟨h0,X,Y,rfl,h1,h2⟩
  ·rw[Dl _ h1,Bg,BA]
   rw[Bg,BA] at hnd hnv
   simp only[List.mem_append,List.mem_cons,not_or] at hnv
   have h3:(val::(vals X++vals Y)).Nodup:=List.nodup_cons.2 ⟨by simp[hnv.1,hnv.2.2],(List.nodup_cons.1 (List.perm_middle.nodup_iff.1 hnd)).2⟩
   exact List.perm_middle.nodup_iff.2 h3
  ·exact (F9 hs val h0).1.nodup_iff.2 (List.nodup_cons.2 ⟨hnv,hnd⟩)
theorem Ig {lo hi:Int} {es:List E} (hr:Bt lo hi es) (h0:0≤lo) (h1:hi≤1048576):∀ e∈es,0≤e.1∧e.1<1048576:=fun e he=>by have:=hr e he;omega
theorem Pe (pp mb n:Nat) (o:TB) (t:TS) (Q:List Nat) (a:Nat) (lf:Bool) (kv vv:Value) (es:List E) (A B:Ae) (hA:Fl A kv es) (hB:Fm B vv es) (key:Int) (val:Nat) (hkv:(0≤key∧key<1048576)∧1≤val∧val<1024) (hck:CkN lf (kL es) (vL es)) (hs:Srt es) (h:Nat) (lo hi:Int) (m:Nat) (L:List E) (hBd:Bd t.N h (putE key val es) hi L) (hlf:lf=decide (h=0)) (hrg:Bt lo hi (putE key val es)) (hdup:(vals (putE key val es)).Nodup) (hC:t.C a=1) (hN:t.N a=none) (hk:t.k<39)
  (hm:m≤(putE key val es).length) (h0:0≤lo) (h1:hi≤1048576):
  Cn prog 101 [Pt_ pp,Iv_ (a:Int),CO lf kv vv,Iv_ key,Iv_ (val:Int)] [trA Tb pp mb n o (some (t,a::(vals (putE key val es)++Q))),A,B] (fun v Γ=>(cnt t.F 0 1024=0∧∃ s:TS×List Nat,v= .tuple #[.agg #[Iv_ 0,Iv_ 0,Iv_ 0],Iv_ 20]∧Γ=[trA Tb pp mb n o (some s),A,B])∨(∃ t2:TS,(St t t2 Q 1 2∧Tr t2.N h a lo hi m L)∧v= .tuple #[.agg #[Iv_ (a:Int),Iv_ 0,Iv_ 0],Iv_ 0]∧Γ=[trA Tb pp mb n o (some (t2,a::Q)),A,B])∨
   ∃ (t2:TS) (kr:Int) (r:Nat) (L1 L2:List E),(St t t2 Q 1 2∧L=L1++L2∧lo<kr∧kr<hi∧Tr t2.N h a lo kr 4 L1∧Tr t2.N h r kr hi 4 L2)∧v= .tuple #[.agg #[Iv_ (a:Int),Iv_ kr,Iv_ (r:Int)],Iv_ 0]∧Γ=[trA Tb pp mb n o (some (t2,a::r::Q)),A,B]):=by
 have hkr:=Ig hrg h0 h1
 have h8:es.length≤8:=by have:=hck.l8;simpa [kL] using this
 by_cases hf:Cr key es∨es.length<8
 ·have hl:(putE key val es).length≤8:=by
   rcases hf with q|q
   ·rcases key_split hs key with ⟨X,v,Y,rfl,h1⟩|⟨h0,_⟩
    ·rw[Dl _ h1];simpa using h8
    ·exact absurd q h0
   ·have:=(IT hs key val).2;omega
  refine Cn.mono (XZ pp mb n o t Q a lf kv vv es A B hA hB key val hkv hck hs h lo hi m L hBd hlf hrg hdup hC hN hk hm ⟨IR hs,hl,hkr,fun _=>V5 _ _ _⟩ hf) ?_
  rintro v Γ ⟨t2,⟨a1,a2⟩,rfl,rfl⟩
  exact .inr (.inl ⟨t2,⟨a1.sub (fun _ q=>q) (by omega) (by omega),a2⟩,rfl,rfl⟩)
 ·simp only[not_or] at hf
  refine Cn.mono (X0 pp mb n o t Q a lf kv vv es A B hA hB key val hkv hck hs h lo hi m L hBd hlf hrg hdup hC hN hk hkr hf.1 (by omega)) ?_
  rintro v Γ (q|q)
  ·exact .inl q
  ·exact .inr (.inr q)
structure InsPre (n:Nat) (t:TS) (Q:List Nat) (a h:Nat) (lo hi:Int) (m:Nat) (key:Int) (val:Nat) (L:List E):Prop where
 T:Tr t.N h a lo hi m L
 kk:lo≤key∧key<hi
 l0:0≤lo
 h1:hi≤1048576
 dt:∃ b,t.N val=some (.dt b)
 nv:∀ q d,t.N q=some (.nd d)→val∉vals d.es
 hk:t.k+3 * h+3<40
 hb:Q.length+10 * h+12+n≤980
abbrev Ih (Tb:Ae) (pp mb n:Nat) (o:TB) (t:TS) (Q:List Nat) (h:Nat) (lo hi:Int) (m:Nat) (key:Int) (val:Nat) (L:List E) (v:Value) (Γ:List Ae):Prop:=
 (cnt t.F 0 1024≤2 * h+1∧∃ s:TS×List Nat,v= .tuple #[.agg #[.int .i64 0,.int .i64 0,.int .i64 0],.int .i64 20]∧Γ=[trA Tb pp mb n o (some s)])∨
 (∃ (t2:TS) (c:Nat),(St t t2 Q (2 * h+2) (3 * h+3)∧Tr t2.N h c lo hi m (putE key val L))∧v= .tuple #[.agg #[.int .i64 (c:Int),.int .i64 0,.int .i64 0],.int .i64 0]∧Γ=[trA Tb pp mb n o (some (t2,c::Q))])∨
 ∃ (t2:TS) (c:Nat) (kr:Int) (r:Nat) (L1 L2:List E),(St t t2 Q (2 * h+2) (3 * h+3)∧putE key val L=L1++L2∧lo<kr∧kr<hi∧Tr t2.N h c lo kr 4 L1∧Tr t2.N h r kr hi 4 L2)∧v= .tuple #[.agg #[.int .i64 (c:Int),.int .i64 kr,.int .i64 (r:Int)],.int .i64 0]∧Γ=[trA Tb pp mb n o (some (t2,c::r::Q))]
variable {t1 t2:TS} {X Y Q':List E} {e:E} {Q:List Nat} {c c2 r h d1 d2:Nat} {lo hi key kr:Int} {L0 Lc L2 M1 M2:List E}
theorem KL (S:St t1 t2 (c::(vals X++(vals Y++Q))) d1 d2) (hq0:Sq (fun c a b L=>Tr t1.N h c a b 4 L) X (min e.1 key) L0) (hq2:Sq (fun c a b L=>Tr t1.N h c a b 4 L) Y hi L2):Sq (fun c a b L=>Tr t2.N h c a b 4 L) X (min e.1 key) L0∧Sq (fun c a b L=>Tr t2.N h c a b 4 L) Y hi L2:=
 ⟨Sq.imp hq0 fun x hx _ _ q=>S.fr _ (by simp[List.mem_map_of_mem hx,vals]) _ _ _ _ _ q,Sq.imp hq2 fun x hx _ _ q=>S.fr _ (by simp[List.mem_map_of_mem hx,vals]) _ _ _ _ _ q⟩
theorem V7 (S:St t1 t2 (c::(vals X++(vals Y++Q))) d1 d2) (hq0:Sq (fun c a b L=>Tr t1.N h c a b 4 L) X (min e.1 key) L0) (hq2:Sq (fun c a b L=>Tr t1.N h c a b 4 L) Y hi L2) (hT:Tr t2.N h c2 (min e.1 key) (nx Y hi) 4 Lc) (hs:Srt (X++e::Y)) (hr:Bt lo hi (X++e::Y)) (hX:X=[]∨e.1≤key) (hlo:lo≤min e.1 key):
  Bd t2.N (h+1) (X++(min e.1 key,c2)::Y) hi (L0++(Lc++L2))∧(Srt (X++(min e.1 key,c2)::Y)∧Bt lo hi (X++(min e.1 key,c2)::Y))∧(vals (X++(min e.1 key,c2)::Y)).Nodup:=by
 obtain ⟨a,b⟩:=KL S hq0 hq2
 have hn:=IU c2 hs hr (k1:=min e.1 key) (hX.imp id (fun q=>by omega)) (by omega) hlo
 have hB:Bd t2.N (h+1) (X++(min e.1 key,c2)::Y) hi (L0++(Lc++L2)):=Sq.mk a hT b
 exact ⟨hB,hn,hB.nodup hn.1 (fun x hx=>(hn.2 x hx).2)⟩
theorem V8 (S:St t1 t2 (c::(vals X++(vals Y++Q))) d1 d2) (hq0:Sq (fun c a b L=>Tr t1.N h c a b 4 L) X (min e.1 key) L0) (hq2:Sq (fun c a b L=>Tr t1.N h c a b 4 L) Y hi L2) (hT:Tr t2.N h c2 (min e.1 key) kr 4 M1) (hT2:Tr t2.N h r kr (nx Y hi) 4 M2) (hs:Srt (X++e::Y)) (hr:Bt lo hi (X++e::Y)) (hX:X=[]∨e.1≤key) (hlo:lo≤min e.1 key) (hk1:min e.1 key<kr) (hk2:kr<nx Y hi) (hhi:nx Y hi≤hi):
  (Srt (X++(min e.1 key,c2)::Y))∧putE kr r (X++(min e.1 key,c2)::Y)=X++(min e.1 key,c2)::(kr,r)::Y∧Bd t2.N (h+1) (putE kr r (X++(min e.1 key,c2)::Y)) hi (L0++((M1++M2)++L2))∧Bt lo hi (putE kr r (X++(min e.1 key,c2)::Y))∧(vals (putE kr r (X++(min e.1 key,c2)::Y))).Nodup∧lo≤kr∧kr<hi:=by
 obtain ⟨a,b⟩:=KL S hq0 hq2
 have hn:=IU c2 hs hr (k1:=min e.1 key) (hX.imp id (fun q=>by omega)) (by omega) hlo
 obtain ⟨hp,_,hl1,hl2⟩:=Td (r:=r) hn.1 hk1 hk2 hn.2 hhi
 have hr2:=MO hn.1 r hn.2 ⟨hl1,hl2⟩
 have hs2:=IR (k:=kr) (v:=r) hn.1
 have hB:Bd t2.N (h+1) (putE kr r (X++(min e.1 key,c2)::Y)) hi (L0++((M1++M2)++L2)):=by
  rw[hp]
  have:L0++((M1++M2)++L2)=L0++(M1++(M2++L2)):=by simp
  rw[this]
  exact Sq.mk (e:=(min e.1 key,c2)) (B:=(kr,r)::Y) a hT ⟨M2,L2,rfl,hT2,b⟩
 exact ⟨hn.1,hp,hB,hr2,hB.nodup hs2 (fun x hx=>(hr2 x hx).2),hl1,hl2⟩
theorem Tf (hr:Bt lo hi (X++e::Y)) (hb:lo≤min e.1 key):∀ x∈X++(min e.1 key,c)::Y,lo≤x.1∧x.1<hi:=fun x hx=>by
 rcases List.mem_append.1 hx with hx|hx
 ·exact hr x (by simp[hx])
 ·rcases List.mem_cons.1 hx with rfl|hx
  ·have:=hr e (by simp);dsimp only;omega
  ·exact hr x (by simp[hx])
end
section
open Go.RowKit
variable {Tb:Ae}
set_option maxHeartbeats 2000000 in
theorem X2 (pp mb n:Nat) (o:TB) (t:TS) (Q:List Nat) (a:Nat) (lo hi:Int) (m:Nat) (key:Int) (val:Nat) (L:List E) (hP:InsPre n t Q a 0 lo hi m key val L):Cn prog 63 [Pt_ pp,Iv_ (a:Int),Iv_ key,Iv_ (val:Int)] [trA Tb pp mb n o (some (t,a::val::Q))] (fun v Γ=>Ih Tb pp mb n o t Q 0 lo hi m key val L v Γ):=by
 intro z R w H;replace H:=H.l1;have K:=H.says 0 rfl (fun h a=>trA.k a)
 have hn:=K.hn
 have hkk:=hP.kk;have h0:=hP.l0;have h1048:=hP.h1;have hnv:=hP.nv;have htk:=hP.hk;have htb:=hP.hb
 obtain ⟨b,hvd⟩:=hP.dt;have hvr:=K.i.rin val (by simp[Ci])
 obtain ⟨es,hN,hm,hrg,hok,hLes,hdt⟩:=hP.T;have hck:CkN true (kL es) (vL es):=K.i.vok (by omega) hn.2 hN
 have hnd:=(K.i.nds a _ hN).2.1
 have hkv:(0≤key∧key<1048576)∧1≤val∧val<1024:=by omega
 obtain rfl:es=L:=hLes.symm;refine Ad func63 rfl ntmps63 rfl (Za 2 [] H rfl ?_);intro b1 w H;refine Zc 7 rfl (Ar rfl (call96 _) (Ie pp mb n o t (val::Q) a true es hN (by omega) (by simp only[List.length_cons];omega)) H.f1 ?_);rintro _ w _ (⟨hnone,v2,v3,s,rfl,rfl⟩|⟨t1,c,v2,v3,O,rfl,rfl⟩) H'
 ·have H:=H'.l4;have sv2:=H.says 0 rfl (fun h q=>q.slc)
  have sv3:=H.says 1 rfl (fun h q=>q.slc)
  refine Za 4 [] H rfl ?_;intro b4 w H;refine Zc 1 rfl (AC rfl rfl (Ai 0 H rfl rfl rfl rfl (vs:=[.bool true,v2,v3]) rfl (Ac rfl (Ac sv2.one (Ac sv3.one Aw))) (by kernel_rfl) (by simp) (out:=[.bool true,v2,v3]) rfl) ?_);rintro w H;replace H:=H.l5;refine Z4 20 [3,4] H rfl ?_;intro w H;refine Zl [4,3] H rfl ?_;exact ⟨_,.inl ⟨(by omega),_,rfl,rfl⟩,H.perm 5 [3] rfl rfl⟩
 ·have H:=H'.l4;have sv2:=H.says 0 rfl (fun h q=>q.slc)
  have sv3:=H.says 1 rfl (fun h q=>q.slc)
  refine Za 4 [] H rfl ?_;intro b5 w H;refine Zc 1 rfl (AC rfl rfl (Ai 0 H rfl rfl rfl rfl (vs:=[.bool true,v2,v3]) rfl (Ac rfl (Ac sv2.one (Ac sv3.one Aw))) (by kernel_rfl) (by simp) (out:=[.bool true,v2,v3]) rfl) ?_);rintro w H;replace H:=H.l5;refine Z0 15 [4] rfl ?_;obtain ⟨hl1,hl2,hl3⟩:=Te (N:=t1.N) hok.srt hrg hkk (fun e he=>by obtain ⟨b,hb⟩:=hdt e he;exact ⟨b,O.dv _ (List.mem_map_of_mem he) b hb⟩) (O.st.dt val (by simp) b hvd) hnd (hnv a _ hN);refine Z2 11 [0,0,0,0,3] H rfl (Ar rfl (call94 _) (MN (es:=es) (fun h q=>q.rd) (fun h q=>q.rd) hok.len hok.srt key) H.f2.f2 ?_);rintro _ w _ (⟨X,v0,Y,⟨hes,hX⟩,rfl,rfl⟩|⟨hno,i0,rfl,rfl⟩) H'
  ·have H:=H'.l5;refine Zc 14 rfl ?_;have hv0:∀ d,t1.N v0≠some (.nd d):=fun d q=>by obtain ⟨b,hb⟩:=hdt (key,v0) (by rw[hes];simp);rw[O.dv v0 (by rw[hes];simp[vals]) b hb] at q;cases q
   obtain ⟨ao2,cc2,rfl⟩:=sv3;have hat:=(H.rd 1 rfl (fun h q=>q.rd)).at (j:=X.length) (u:=Iv_ (v0:Int)) (by rw[hes];simp[vL])
   replace H:=(H.mono 3 (B:=trA Tb pp mb n o (some (t1,v0::(c::(vals (putE key val es)++Q))))) rfl (fun h q=>q.perm (by rw[hes];exact KS hX))).l5
   refine Z2 5 [2,2,0] H rfl (Ab rfl (Ao rfl (z:=1) (j:=X.length) (r:=X.length) (by kernel_rfl) rfl rfl rfl (by rw[hes];simp) hat (by omega)) (Ab rfl (Az rfl rfl (by kernel_rfl) (Av hat)) (Ar rfl (call52 _) (FT pp mb n o t1 _ v0 hv0) H.f3 ?_)));rintro _ w _ ⟨t2,⟨hS2,hq2,hC2,hN2,hF2⟩,rfl,rfl⟩ H;refine Z2 19 [4,3,3] H rfl (Ar rfl (call101 _) (Pe pp mb n o t2 Q c true _ _ es _ _ (fun h q=>q.rd) (fun h q=>q.rd) key val hkv hck hok.srt 0 lo hi m (putE key val es) (hS2.bd (fun v hv=>by simp[hv]) hl1) rfl hl2 hl3 (hS2.op c (by simp) O.N0 O.C1).2 (hS2.op c (by simp) O.N0 O.C1).1 (by have:=O.st.k;have:=hS2.k;omega) (by have:=(IT (es:=es) hok.srt key val).1;omega) h0 h1048) H ?_);rintro _ w _ (⟨hf3,s3,rfl,rfl⟩|⟨t3,⟨hSt3,hT3⟩,rfl,rfl⟩|⟨t3,kr3,r3,L3,L4,⟨hSt3,hL3,hk3,hk4,hT3,hT4⟩,rfl,rfl⟩) H'
   ·have H:=H'.l5;refine Z4 7 [4] H rfl ?_;intro w H;refine Zl [4,3] H rfl ?_;exact ⟨_,.inl ⟨(by have:=O.st.f;have:=hS2.f;omega),_,rfl,rfl⟩,H.perm 5 [0] rfl rfl⟩
   ·have H:=H'.l5;refine Z4 7 [4] H rfl ?_;intro w H;refine Zl [4,3] H rfl ?_;exact ⟨_,.inr (.inl ⟨_,c,⟨((O.st.sub (fun p hp=>by simp[hp]) (Nat.le_refl _) (Nat.le_refl _)).trans hS2 (R:=Q) (R1:=Q) (fun p hp=>hp) (fun p hp=>by simp[hp]) (e:=1) (f:=1) (by omega) (by omega)).trans hSt3 (fun p hp=>hp) (fun p hp=>hp) (by omega) (by omega),hT3⟩,rfl,rfl⟩),H.perm 5 [0] rfl rfl⟩
   ·have H:=H'.l5;refine Z4 7 [4] H rfl ?_;intro w H;refine Zl [4,3] H rfl ?_;exact ⟨_,.inr (.inr ⟨_,c,_,_,_,_,⟨((O.st.sub (fun p hp=>by simp[hp]) (Nat.le_refl _) (Nat.le_refl _)).trans hS2 (R:=Q) (R1:=Q) (fun p hp=>hp) (fun p hp=>by simp[hp]) (e:=1) (f:=1) (by omega) (by omega)).trans hSt3 (fun p hp=>hp) (fun p hp=>hp) (by omega) (by omega),hL3,hk3,hk4,hT3,hT4⟩,rfl,rfl⟩),H.perm 5 [0] rfl rfl⟩
  ·have H:=H'.l5;refine Zc 16 rfl ?_;replace H:=(H.mono 3 (B:=trA Tb pp mb n o (some (t1,c::(vals (putE key val es)++Q)))) rfl (fun h q=>q.perm (KR hok.srt hno))).l5
   refine Z2 6 [2,3] H rfl (Ar rfl (call101 _) (Pe pp mb n o t1 Q c true _ _ es _ _ (fun h q=>q.rd) (fun h q=>q.rd) key val hkv hck hok.srt 0 lo hi m (putE key val es) hl1 rfl hl2 hl3 O.C1 O.N0 (by have:=O.st.k;omega) (by have:=(IT (es:=es) hok.srt key val).1;omega) h0 h1048) H.f1.f1.f3 ?_);rintro _ w _ (⟨hf3,s3,rfl,rfl⟩|⟨t3,⟨hSt3,hT3⟩,rfl,rfl⟩|⟨t3,kr3,r3,L3,L4,⟨hSt3,hL3,hk3,hk4,hT3,hT4⟩,rfl,rfl⟩) H'
   ·have H:=H'.l5;refine Z4 7 [4] H rfl ?_;intro w H;refine Zl [4,3] H rfl ?_;exact ⟨_,.inl ⟨(by have:=O.st.f;omega),_,rfl,rfl⟩,H.perm 5 [0] rfl rfl⟩
   ·have H:=H'.l5;refine Z4 7 [4] H rfl ?_;intro w H;refine Zl [4,3] H rfl ?_;exact ⟨_,.inr (.inl ⟨_,c,⟨(O.st.sub (fun p hp=>by simp[hp]) (Nat.le_refl _) (Nat.le_refl _)).trans hSt3 (R:=Q) (R1:=Q) (fun p hp=>hp) (fun p hp=>hp) (by omega) (by omega),hT3⟩,rfl,rfl⟩),H.perm 5 [0] rfl rfl⟩
   ·have H:=H'.l5;refine Z4 7 [4] H rfl ?_;intro w H;refine Zl [4,3] H rfl ?_;exact ⟨_,.inr (.inr ⟨_,c,_,_,_,_,⟨(O.st.sub (fun p hp=>by simp[hp]) (Nat.le_refl _) (Nat.le_refl _)).trans hSt3 (R:=Q) (R1:=Q) (fun p hp=>hp) (fun p hp=>hp) (by omega) (by omega),hL3,hk3,hk4,hT3,hT4⟩,rfl,rfl⟩),H.perm 5 [0] rfl rfl⟩
set_option maxHeartbeats 4000000 in
theorem X3 (pp mb n:Nat) (o:TB) (t:TS) (Q:List Nat) (h:Nat) (ih:∀ (t:TS) (Q:List Nat) (a:Nat) (lo hi:Int) (m:Nat) (key:Int) (val:Nat) (L:List E),InsPre n t Q a h lo hi m key val L→Cn prog 63 [Pt_ pp,Iv_ (a:Int),Iv_ key,Iv_ (val:Int)] [trA Tb pp mb n o (some (t,a::val::Q))] (fun v Γ=>Ih Tb pp mb n o t Q h lo hi m key val L v Γ)) (a:Nat) (lo hi:Int) (m:Nat) (key:Int) (val:Nat) (L:List E) (hP:InsPre n t Q a (h+1) lo hi m key val L):Cn prog 63 [Pt_ pp,Iv_ (a:Int),Iv_ key,Iv_ (val:Int)] [trA Tb pp mb n o (some (t,a::val::Q))] (fun v Γ=>Ih Tb pp mb n o t Q (h+1) lo hi m key val L v Γ):=by
 intro z R w H;replace H:=H.l1;have K:=H.says 0 rfl (fun h a=>trA.k a)
 have hn:=K.hn
 have hkk:=hP.kk;have h0:=hP.l0;have h1048:=hP.h1;have hnv:=hP.nv;have htk:=hP.hk;have htb:=hP.hb
 obtain ⟨b,hvd⟩:=hP.dt;have hvr:=K.i.rin val (by simp[Ci])
 obtain ⟨es,hN,hm,hrg,hok,hBd⟩:=hP.T;refine Ad func63 rfl ntmps63 rfl (Za 2 [] H rfl ?_);intro b1 w H;refine Zc 7 rfl (Ar rfl (call96 _) (Ie pp mb n o t (val::Q) a false es hN (by omega) (by simp only[List.length_cons];omega)) H.f1 ?_);rintro _ w _ (⟨hnone,v2,v3,s,rfl,rfl⟩|⟨t1,c,v2,v3,O,rfl,rfl⟩) H'
 ·have H:=H'.l4;have sv2:=H.says 0 rfl (fun h q=>q.slc)
  have sv3:=H.says 1 rfl (fun h q=>q.slc)
  refine Za 4 [] H rfl ?_;intro b4 w H;refine Zc 1 rfl (AC rfl rfl (Ai 0 H rfl rfl rfl rfl (vs:=[.bool false,v2,v3]) rfl (Ac rfl (Ac sv2.one (Ac sv3.one Aw))) (by kernel_rfl) (by simp) (out:=[.bool false,v2,v3]) rfl) ?_);rintro w H;replace H:=H.l5;refine Z4 20 [3,4] H rfl ?_;intro w H;refine Zl [4,3] H rfl ?_;exact ⟨_,.inl ⟨(by omega),_,rfl,rfl⟩,H.perm 5 [3] rfl rfl⟩
 ·have H:=H'.l4;have sv2:=H.says 0 rfl (fun h q=>q.slc)
  have sv3:=H.says 1 rfl (fun h q=>q.slc)
  refine Za 4 [] H rfl ?_;intro b5 w H;refine Zc 1 rfl (AC rfl rfl (Ai 0 H rfl rfl rfl rfl (vs:=[.bool false,v2,v3]) rfl (Ac rfl (Ac sv2.one (Ac sv3.one Aw))) (by kernel_rfl) (by simp) (out:=[.bool false,v2,v3]) rfl) ?_);rintro w H;replace H:=H.l5;refine Z2 27 [4,0,0,0,0,3] H rfl (Ar rfl (call95 _) (Kg (es:=es) (fun h q=>q.rd) (fun h q=>q.rd) hok.len hok.srt (hok.ne rfl) key) H.f2.f2 ?_);rintro _ w _ ⟨X,e,Y,⟨hes,hX,hXe,hY⟩,rfl,rfl⟩ H;refine Zc 4 rfl ?_;obtain ⟨ao2,cc2,rfl⟩:=sv3;have hat:=(H.rd 1 rfl (fun h q=>q.rd)).at (j:=X.length) (u:=Iv_ (e.2:Int)) (by rw[hes];simp[vL])
  replace H:=(H.mono 3 (B:=trA Tb pp mb n o (some (t1,e.2::val::(c::(vals X++(vals Y++Q)))))) rfl (fun h q=>q.perm (by rw[hes];exact V6))).l5
  have hs1:Srt (X++e::Y):=by rw[←hes];exact hok.srt
  have hr1:Bt lo hi (X++e::Y):=by rw[←hes];exact hrg
  obtain ⟨L0,Lc,L2,⟨hq0,hqc,hq2⟩,hLe,hLp,hb1,hb2,hb3,hb4⟩:=X1 val hs1 hr1 (by rw[←hes];exact O.bd hBd) hX hY hkk;have hel:(vals X).length+(vals Y).length+1=es.length:=by rw[hes];simp[vals];omega
  have hes8:es.length≤8:=hok.len
  refine Z2 5 [2,2,0] H rfl (Ab rfl (Ao rfl (z:=1) (j:=X.length) (r:=X.length) (by kernel_rfl) rfl rfl rfl (by rw[hes];simp) hat (by omega)) (Ab rfl (Az rfl rfl (by kernel_rfl) (Av hat)) (Zc 2 rfl (Ar rfl (call63 _) (ih t1 (c::(vals X++(vals Y++Q))) e.2 (min e.1 key) (nx Y hi) 4 key val Lc ⟨hqc,⟨hb2,hb3⟩,by omega,by omega,⟨b,O.st.dt val (by simp) b hvd⟩,fun q d hq=>hnv q d (O.sub q d hq),by have:=O.st.k;omega,by simp only[List.length_cons,List.length_append];omega⟩) H.f3 ?_))));rintro _ w _ (⟨hf2,s2,rfl,rfl⟩|⟨t2,c2,⟨hSt2,hT2⟩,rfl,rfl⟩|⟨t2,c2,kr,r,M1,M2,⟨hSt2,hLs,hk1,hk2,hT2,hT3⟩,rfl,rfl⟩) H'
  ·have H:=H'.l5;refine Za 3 [] H rfl ?_;intro b6 w H;refine Z4 21 [0,3,5] H rfl ?_;intro w H;refine Zl [5,3] H rfl ?_;exact ⟨_,.inl ⟨(by have:=O.st.f;omega),_,rfl,rfl⟩,H.perm 6 [1] rfl rfl⟩
  ·have H:=H'.l5;refine Za 3 [] H rfl ?_;intro b7 w H;refine Z4 15 [0,4] H rfl ?_;intro w H;have hXl:X.length<es.length:=by rw[hes];simp
   have hnek:0<(kL es).length:=by simp only[List.length_map];omega
   have hnev:0<(vL es).length:=by simp only[List.length_map];omega
   obtain ⟨gk,cap_gk,rest_gk,rfl,c1gk,c2gk,c3gk,H⟩:=H.ungrow 2 rfl hnek;replace H:=H.l6;obtain ⟨gv_,cap_gv_,rest_gv_,hgq,c1gv_,c2gv_,c3gv_,H'⟩:=H.ungrow 3 rfl hnev;cases hgq;clear H;have H:=H'.l6;refine Z2 6 [2,4,0,0,0,0] H rfl (Ab rfl (B4 rfl (z:=1) (j:=X.length) (r:=X.length) (by kernel_rfl) rfl rfl rfl (by simp only[List.length_map];omega) (by omega)) (AC rfl rfl (Ai 3 H rfl rfl rfl rfl (vs:=[Iv_ (c2:Int)]) rfl (by simp[u8,u32,Value.oneCell']) (by kernel_rfl) (by simp only[List.length_append,List.length_map,List.length_cons,List.length_nil];omega) (out:=(((vL es).set X.length (c2:Int)).map Iv_++rest_gv_)) (Dj (by simp only[List.length_map];omega))) ?_));rintro w H;replace H:=H.l6;refine Zc 3 rfl (BF 11 (by kernel_rfl) (by kernel_rfl) (Bc H fun w H'=> ?_))
   have H:=H'.l6;refine TG 6 [1,0,1,0] (Bm (H.blk 4 rfl) Bx) rfl (by kernel_rfl) rfl (B5 rfl rfl rfl (B4 rfl (z:=1) (j:=X.length) (r:=X.length) (by kernel_rfl) rfl rfl rfl (by simp only[List.length_map];omega) (by omega)) (B5 rfl rfl rfl (AT rfl rfl (by kernel_rfl) (Av (H.cel 2 rfl X.length (show ((kL es).map Iv_++rest_gk)[X.length]? =some (Iv_ e.1) from (by rw[List.getElem?_append_left (by simp only[List.length_map];omega),List.getElem?_map,List.getElem?_map,hes];simp))))) ?_));refine Nu 1 [] rfl (by kernel_rfl) (B5 rfl rfl rfl (I1 rfl rfl rfl) (B5 rfl rfl rfl (B4 rfl (z:=1) (j:=X.length) (r:=X.length) (by kernel_rfl) rfl rfl rfl (by simp only[List.length_map];omega) (by omega)) (CC (gw (AC rfl rfl (Ai 2 H rfl rfl rfl rfl (vs:=[Iv_ (min (e.1:Int) key)]) rfl (by simp[u8,u32,Value.oneCell']) (by kernel_rfl) (by simp only[List.length_append,List.length_map,List.length_cons,List.length_nil];omega) (out:=(((kL es).set X.length (min e.1 key)).map Iv_++rest_gk)) (Dj (by simp only[List.length_map];omega))) ?_)))));rintro w H;replace H:=H.l6;refine Zc 4 rfl ?_;have hlk:(kL es).length=(kL (X++(min e.1 key,c2)::Y)).length:=by rw[hes];simp
   have hlv:(vL es).length=(vL (X++(min e.1 key,c2)::Y)).length:=by rw[hes];simp
   have hks:(kL es).set X.length (min e.1 key)=kL (X++(min e.1 key,c2)::Y):=by rw[hes];simp[kL,List.set_append]
   have hvs:(vL es).set X.length (c2:Int)=vL (X++(min e.1 key,c2)::Y):=by rw[hes];simp[vL,List.set_append]
   replace H:=(H.mono 2 (B:=grow 3 1 (.slice (some ⟨gk,0,none⟩) ((kL es).length) cap_gk) ((kL es).length) ((kL (X++(min e.1 key,c2)::Y)).map Iv_)) rfl (fun h q=>q.grow (by omega) (by omega) (by simp only[List.length_append,List.length_map,List.length_set];simp only[List.length_map] at *;omega) (by rw[Nat.mul_one,List.take_left' (by simp),hks]))).l6
   replace H:=(H.mono 3 (B:=grow 3 1 (.slice (some ⟨gv_,0,none⟩) ((vL es).length) cc2) ((vL es).length) ((vL (X++(min e.1 key,c2)::Y)).map Iv_)) rfl (fun h q=>q.grow (by omega) (by omega) (by simp only[List.length_append,List.length_map,List.length_set];simp only[List.length_map] at *;omega) (by rw[Nat.mul_one,List.take_left' (by simp),hvs]))).l6
   refine Z2 10 [2,0,0,4] H rfl ?_;obtain ⟨hB2,⟨hn1,hn2⟩,hd2⟩:=V7 hSt2 hq0 hq2 hT2 hs1 hr1 hX hb1;have hl1:((X++(min e.1 key,c2)::Y):List E).length=es.length:=by rw[hes];simp
   replace H:=(H.mono 1 (B:=trA Tb pp mb n o (some (t2,c::(vals (X++(min e.1 key,c2)::Y)++Q)))) rfl (fun h q=>q.perm MP)).l6
   refine Z2 6 [4,3] H rfl (Ar rfl (call98 _) (E3 pp mb n o t2 Q c false _ _ (X++(min e.1 key,c2)::Y) _ _ (fun h q=>by rw[←hlk];exact q.rd) (fun h q=>by rw[←hlv];exact q.rd) (h+1) lo hi m (putE key val L) (by rw[hLp];exact hB2) (by simp) hn2 (by omega) ⟨hn1,by dsimp only;omega,Ig hn2 h0 h1048,fun _=>by simp⟩ hd2 (hSt2.op c (by simp) O.N0 O.C1).2 (hSt2.op c (by simp) O.N0 O.C1).1 (by have:=O.st.k;have:=hSt2.k;omega)) H.f3.f3.f3 ?_);rintro _ w _ ⟨t3,⟨hSt3,hT3,hC3,hN3⟩,rfl,rfl⟩ H;refine Z4 5 [5] H rfl ?_;intro w H;refine Zl [5,3] H rfl ?_;exact ⟨_,.inr (.inl ⟨_,c,⟨((O.st.sub (R':=Q) (fun p hp=>by simp[hp]) (Nat.le_refl _) (Nat.le_refl _)).trans hSt2 (R:=Q) (R1:=Q) (fun p hp=>hp) (fun p hp=>by simp[hp]) (Nat.le_refl _) (Nat.le_refl _)).trans hSt3 (fun p hp=>hp) (fun p hp=>hp) (by omega) (by omega),hT3⟩,rfl,rfl⟩),H.perm 6 [0] rfl rfl⟩
  ·have H:=H'.l5;refine Za 3 [] H rfl ?_;intro b8 w H;refine Z4 15 [0,4] H rfl ?_;intro w H;have hXl:X.length<es.length:=by rw[hes];simp
   have hnek:0<(kL es).length:=by simp only[List.length_map];omega
   have hnev:0<(vL es).length:=by simp only[List.length_map];omega
   obtain ⟨gk,cap_gk,rest_gk,rfl,c1gk,c2gk,c3gk,H⟩:=H.ungrow 2 rfl hnek;replace H:=H.l6;obtain ⟨gv_,cap_gv_,rest_gv_,hgq,c1gv_,c2gv_,c3gv_,H'⟩:=H.ungrow 3 rfl hnev;cases hgq;clear H;have H:=H'.l6;refine Z2 6 [2,4,0,0,0,0] H rfl (Ab rfl (B4 rfl (z:=1) (j:=X.length) (r:=X.length) (by kernel_rfl) rfl rfl rfl (by simp only[List.length_map];omega) (by omega)) (AC rfl rfl (Ai 3 H rfl rfl rfl rfl (vs:=[Iv_ (c2:Int)]) rfl (by simp[u8,u32,Value.oneCell']) (by kernel_rfl) (by simp only[List.length_append,List.length_map,List.length_cons,List.length_nil];omega) (out:=(((vL es).set X.length (c2:Int)).map Iv_++rest_gv_)) (Dj (by simp only[List.length_map];omega))) ?_));rintro w H;replace H:=H.l6;refine Zc 3 rfl (BF 11 (by kernel_rfl) (by kernel_rfl) (Bc H fun w H'=> ?_))
   have H:=H'.l6;refine TG 6 [1,0,1,0] (Bm (H.blk 4 rfl) Bx) rfl (by kernel_rfl) rfl (B5 rfl rfl rfl (B4 rfl (z:=1) (j:=X.length) (r:=X.length) (by kernel_rfl) rfl rfl rfl (by simp only[List.length_map];omega) (by omega)) (B5 rfl rfl rfl (AT rfl rfl (by kernel_rfl) (Av (H.cel 2 rfl X.length (show ((kL es).map Iv_++rest_gk)[X.length]? =some (Iv_ e.1) from (by rw[List.getElem?_append_left (by simp only[List.length_map];omega),List.getElem?_map,List.getElem?_map,hes];simp))))) ?_));refine Nu 1 [] rfl (by kernel_rfl) (B5 rfl rfl rfl (I1 rfl rfl rfl) (B5 rfl rfl rfl (B4 rfl (z:=1) (j:=X.length) (r:=X.length) (by kernel_rfl) rfl rfl rfl (by simp only[List.length_map];omega) (by omega)) (CC (gw (AC rfl rfl (Ai 2 H rfl rfl rfl rfl (vs:=[Iv_ (min (e.1:Int) key)]) rfl (by simp[u8,u32,Value.oneCell']) (by kernel_rfl) (by simp only[List.length_append,List.length_map,List.length_cons,List.length_nil];omega) (out:=(((kL es).set X.length (min e.1 key)).map Iv_++rest_gk)) (Dj (by simp only[List.length_map];omega))) ?_)))));rintro w H;replace H:=H.l6;refine Zc 4 rfl ?_;have hlk:(kL es).length=(kL (X++(min e.1 key,c2)::Y)).length:=by rw[hes];simp
   have hlv:(vL es).length=(vL (X++(min e.1 key,c2)::Y)).length:=by rw[hes];simp
   have hks:(kL es).set X.length (min e.1 key)=kL (X++(min e.1 key,c2)::Y):=by rw[hes];simp[kL,List.set_append]
   have hvs:(vL es).set X.length (c2:Int)=vL (X++(min e.1 key,c2)::Y):=by rw[hes];simp[vL,List.set_append]
   have hr0:manyN n+1≤r:=by have K3:=H.says 1 rfl (fun h a=>trA.k a);exact (K3.i.rin r (by simp[Ci])).1
   replace H:=(H.mono 2 (B:=grow 3 1 (.slice (some ⟨gk,0,none⟩) ((kL es).length) cap_gk) ((kL es).length) ((kL (X++(min e.1 key,c2)::Y)).map Iv_)) rfl (fun h q=>q.grow (by omega) (by omega) (by simp only[List.length_append,List.length_map,List.length_set];simp only[List.length_map] at *;omega) (by rw[Nat.mul_one,List.take_left' (by simp),hks]))).l6
   replace H:=(H.mono 3 (B:=grow 3 1 (.slice (some ⟨gv_,0,none⟩) ((vL es).length) cc2) ((vL es).length) ((vL (X++(min e.1 key,c2)::Y)).map Iv_)) rfl (fun h q=>q.grow (by omega) (by omega) (by simp only[List.length_append,List.length_map,List.length_set];simp only[List.length_map] at *;omega) (by rw[Nat.mul_one,List.take_left' (by simp),hvs]))).l6
   refine Z2 6 [2,0,0,0] H rfl (Af rfl (fun h1=> ?_) (fun h1=> ?_))
   ·refine Zc 1 rfl ?_;obtain ⟨hn1,hput,hB2,hr2,hd2,hkr1,hkr2⟩:=V8 (r:=r) hSt2 hq0 hq2 hT2 hT3 hs1 hr1 hX hb1 hk1 hk2 hb4;have hpl:(putE kr r (X++(min e.1 key,c2)::Y)).length=es.length+1:=by rw[hput,hes];simp only[List.length_append,List.length_cons];omega
    replace H:=(H.mono 1 (B:=trA Tb pp mb n o (some (t2,c::(vals (putE kr r (X++(min e.1 key,c2)::Y))++Q)))) rfl (fun h q=>q.perm (by rw[hput];exact QU))).l6
    have K2:=H.says 1 rfl (fun h a=>trA.k a)
    have hr3:=Ig hr2 h0 h1048
    have hkv2:(0≤kr∧kr<1048576)∧1≤r∧r<1024:=by have:=K2.i.rin r (by simp[Ci,hput,vals]);omega
    have hck2:CkN false (kL (X++(min e.1 key,c2)::Y)) (vL (X++(min e.1 key,c2)::Y)):=CkN.of ⟨hn1,by have:((X++(min e.1 key,c2)::Y):List E).length=es.length:=(by rw[hes];simp);dsimp only;omega,fun x hx=>by have:=Tf hr1 hb1 (c:=c2) x hx;omega,fun _=>by simp⟩ (fun v hv=>by have:=K2.i.rin v (by simp only[Ci,hput,Bg,BA] at hv ⊢;simp only[List.mem_cons,List.mem_append] at hv ⊢;rcases hv with h|h|h<;>simp[h]);omega)
    refine Z2 8 [4,3,1,0,0,2,0,0] H rfl (Ar rfl (call101 _) (Pe pp mb n o t2 Q c false _ _ (X++(min e.1 key,c2)::Y) _ _ (fun h q=>by rw[←hlk];exact q.rd) (fun h q=>by rw[←hlv];exact q.rd) kr r hkv2 hck2 hn1 (h+1) lo hi m (putE key val L) (by rw[hLp,hLs];exact hB2) (by simp) hr2 hd2 (hSt2.op c (by simp) O.N0 O.C1).2 (hSt2.op c (by simp) O.N0 O.C1).1 (by have:=O.st.k;have:=hSt2.k;omega) (by omega) h0 h1048) H.f3.f3.f3 ?_);rintro _ w _ (⟨hf3,s3,rfl,rfl⟩|⟨t3,⟨hSt3,hT3⟩,rfl,rfl⟩|⟨t3,kr3,r3,L3,L4,⟨hSt3,hL3,hk3,hk4,hT3,hT4⟩,rfl,rfl⟩) H'
    ·have H:=H'.l6;refine Z4 7 [5] H rfl ?_;intro w H;refine Zl [5,3] H rfl ?_;exact ⟨_,.inl ⟨(by have:=O.st.f;have:=hSt2.f;omega),_,rfl,rfl⟩,H.perm 6 [0] rfl rfl⟩
    ·have H:=H'.l6;refine Z4 7 [5] H rfl ?_;intro w H;refine Zl [5,3] H rfl ?_;exact ⟨_,.inr (.inl ⟨_,c,⟨((O.st.sub (R':=Q) (fun p hp=>by simp[hp]) (Nat.le_refl _) (Nat.le_refl _)).trans hSt2 (R:=Q) (R1:=Q) (fun p hp=>hp) (fun p hp=>by simp[hp]) (Nat.le_refl _) (Nat.le_refl _)).trans hSt3 (fun p hp=>hp) (fun p hp=>hp) (by omega) (by omega),hT3⟩,rfl,rfl⟩),H.perm 6 [0] rfl rfl⟩
    ·have H:=H'.l6;refine Z4 7 [5] H rfl ?_;intro w H;refine Zl [5,3] H rfl ?_;exact ⟨_,.inr (.inr ⟨_,c,_,_,_,_,⟨((O.st.sub (R':=Q) (fun p hp=>by simp[hp]) (Nat.le_refl _) (Nat.le_refl _)).trans hSt2 (R:=Q) (R1:=Q) (fun p hp=>hp) (fun p hp=>by simp[hp]) (Nat.le_refl _) (Nat.le_refl _)).trans hSt3 (fun p hp=>hp) (fun p hp=>hp) (by omega) (by omega),hL3,hk3,hk4,hT3,hT4⟩,rfl,rfl⟩),H.perm 6 [0] rfl rfl⟩
   ·(exfalso;omega)
end
section
open Go.RowKit
variable {Tb:Ae}
theorem MQ (pp mb n:Nat) (o:TB):∀ (h:Nat) (t:TS) (Q:List Nat) (a:Nat) (lo hi:Int) (m:Nat) (key:Int) (val:Nat) (L:List E),InsPre n t Q a h lo hi m key val L→Cn prog 63 [Pt_ pp,Iv_ (a:Int),Iv_ key,Iv_ (val:Int)] [trA Tb pp mb n o (some (t,a::val::Q))] (fun v Γ=>Ih Tb pp mb n o t Q h lo hi m key val L v Γ)
 | 0=>fun t Q a lo hi m key val L hP=>X2 pp mb n o t Q a lo hi m key val L hP
 | h+1=>fun t Q a lo hi m key val L hP=>X3 pp mb n o t Q h (MQ pp mb n o h) a lo hi m key val L hP
theorem Tr.lo {N:Hm} {h r:Nat} {lo hi:Int} {m:Nat} {L es:List E} {lf:Bool} (t:Tr N h r lo hi m L) (hN:N r=some (.nd ⟨lf,es⟩)) (hm:1≤m):Tr N h r (nx es hi) hi m L∧lo≤nx es hi∧nx es hi<hi:=by
 obtain ⟨es',h1,h2,h3,h4,h5⟩:=Tr.iff.1 t
 rw[h1] at hN;cases hN
 cases es with
 | nil=>simp at h2;omega
 | cons e u=>
  have he:=h3 e (by simp)
  refine ⟨Tr.iff.2 ⟨_,h1,h2,fun x hx=>⟨?_,(h3 x hx).2⟩,h4,h5⟩,he⟩
  rcases List.mem_cons.1 hx with rfl|hx
  ·exact Int.le_refl _
  ·exact Int.le_of_lt ((Srt.cons.1 h4.srt).1 x hx)
theorem root_two {N:Hm} {h c r:Nat} {kr:Int} {L1 L2:List E} {es:List E} {lf:Bool} (hT:Tr N h c 0 kr 4 L1) (hN:N c=some (.nd ⟨lf,es⟩)) (hT2:Tr N h r kr 1048576 4 L2) (hkr:kr<1048576):
  Bd N (h+1) [(nx es kr,c),(kr,r)] 1048576 (L1++L2)∧Bt 0 1048576 [(nx es kr,c),(kr,r)]∧(Nd.mk false [(nx es kr,c),(kr,r)]).Ok∧(vals [(nx es kr,c),(kr,r)]).Nodup:=by
 obtain ⟨h1,h2,h3⟩:=hT.lo hN (by omega)
 have hs:Srt [(nx es kr,c),(kr,r)]:=Srt.cons.2 ⟨fun x hx=>by simp at hx;subst hx;exact h3,Srt.cons.2 ⟨by simp,by simp[Srt]⟩⟩
 have hr:Bt 0 1048576 [(nx es kr,c),(kr,r)]:=fun x hx=>by
  simp at hx;rcases hx with rfl|rfl
  ·dsimp only;omega
  ·dsimp only;omega
 have hB:Bd N (h+1) [(nx es kr,c),(kr,r)] 1048576 (L1++L2):=⟨L1,L2,rfl,h1,L2,[],by simp,hT2,rfl⟩
 exact ⟨hB,hr,⟨hs,by simp,fun e he=>hr e he,fun _=>by simp⟩,hB.nodup hs (fun x hx=>(hr x hx).2)⟩
theorem Th {N:Hm} {key:Int} {val:Nat} {b:List UInt8} (hv:N val=some (.dt b)) (hk:0≤key∧key<1048576):Bd N 0 [(key,val)] 1048576 (putE key val [])∧Bt 0 1048576 [(key,val)]∧(Nd.mk true [(key,val)]).Ok∧(vals [(key,val)]).Nodup:=by
 have hr:Bt 0 1048576 [(key,val)]:=fun x hx=>by simp at hx;subst hx;exact hk
 exact ⟨⟨rfl,fun e he=>by simp at he;subst he;exact ⟨b,hv⟩⟩,hr,⟨by simp[Srt],by simp,fun e he=>hr e he,fun q=>by cases q⟩,by simp[vals]⟩
def Root (N:Hm) (r:Nat) (L:List E):Prop:=(r=0∧L=[])∨(r≠0∧∃ h,Tr N h r 0 1048576 (if h=0 then 1 else 2) L)
def BQ (r:Nat):List Nat:=if r=0 then [] else [r]
def Cs (N:Hm):Nat→Nat→List Nat
 | 0,r=>[r]
 | h+1,r=>match N r with
  | some (.nd d)=>d.es.flatMap fun e=>Cs N h e.2
  | _=>[]
def Of (N:Hm) (r:Nat):List E:=match N r with
 | some (.nd d)=>d.es
 | _=>[]
theorem Jy {N:Hm} {h r:Nat} {lo hi:Int} {m:Nat} {L:List E} (t:Tr N h r lo hi m L) (hm:1≤m):(Cs N h r).flatMap (Of N)=L∧(∀ q∈Cs N h r,Of N q≠[]∧∃ d,N q=some (.nd d))∧m * 4 ^ (h - 1)≤(Cs N h r).length * (if h=0 then m else 1):=by
 induction h generalizing r lo hi m L with
 | zero=>
  obtain ⟨es,h1,h2,_,_,rfl,_⟩:=t
  refine ⟨by simp[Cs,Of,h1],fun q hq=> ?_,by simp[Cs]⟩
  simp[Cs] at hq;subst hq
  refine ⟨?_,_,h1⟩
  simp only[Of,h1]
  intro q;rw[q] at h2;simp at h2;omega
 | succ h ih=>
  obtain ⟨es,h1,h2,_,_,h5⟩:=t
  have hl:Cs N (h+1) r=es.flatMap fun e=>Cs N h e.2:=by simp[Cs,h1]
  rw[hl]
  have key:∀ (es:List E) (L:List E),Sq (fun c a b L=>Tr N h c a b 4 L) es hi L→(es.flatMap fun e=>Cs N h e.2).flatMap (Of N)=L∧(∀ q∈es.flatMap fun e=>Cs N h e.2,Of N q≠[]∧∃ d,N q=some (.nd d))∧es.length * 4 ^ h≤(es.flatMap fun e=>Cs N h e.2).length:=by
   intro es
   induction es with
   | nil=>intro L q;have q:L=[]:=q;subst q;simp
   | cons e u ih2=>
    rintro _ ⟨L1,L2,rfl,q1,q2⟩
    obtain ⟨a1,a2,a3⟩:=ih q1 (by omega)
    obtain ⟨b1,b2,b3⟩:=ih2 L2 q2
    have a4:4 ^ h≤(Cs N h e.2).length:=by
     cases h with
     | zero=>simp[Cs]
     | succ h=>simp at a3;rw[Nat.pow_succ,Nat.mul_comm];exact a3
    refine ⟨by simp only[List.flatMap_cons,List.flatMap_append,a1,b1],fun q hq=> ?_,?_⟩
    ·rcases List.mem_append.1 (by simpa using hq:q∈Cs N h e.2++u.flatMap fun e=>Cs N h e.2) with hq|hq
     ·exact a2 q hq
     ·exact b2 q hq
    ·simp only[List.flatMap_cons,List.length_append,List.length_cons]
     rw[Nat.add_mul];omega
  obtain ⟨a1,a2,a3⟩:=key es L h5
  refine ⟨a1,a2,?_⟩
  have:m * 4 ^ h≤es.length * 4 ^ h:=Nat.mul_le_mul_right _ h2
  rw[if_neg (by omega),Nat.mul_one,Nat.add_sub_cancel];omega
theorem G7 {f:Nat→List E} :∀ {ps:List Nat},Srt (ps.flatMap f)→(∀ p∈ps,f p≠[])→ps.Nodup
 | [],_,_=>by simp
 | p::ps,hs,hne=>by
  rw[List.flatMap_cons] at hs
  obtain ⟨s1,s2,s3⟩:=Srt.app.1 hs
  rw[List.nodup_cons]
  refine ⟨fun hp=> ?_,G7 s2 (fun q hq=>hne q (by simp[hq]))⟩
  obtain ⟨x,u,e⟩:=List.exists_cons_of_ne_nil (hne p (by simp))
  have:=s3 x (by rw[e];simp) x (List.mem_flatMap.2 ⟨p,hp,by rw[e];simp⟩)
  omega
theorem MR {n:Nat} :∀ {l:List Nat},l.Nodup→(∀ x∈l,x<n)→l.length≤n:=fun {l} h1 h2=>by
 have:=List.Nodup.length_le_of_subset (l₁:=l) (l₂:=List.range n) h1 (fun x hx=>List.mem_range.2 (h2 x hx))
 simpa using this
theorem Tr.low {n f:Nat} {N:Hm} {C:Nat→Nat} {R:List Nat} (I:TInv n f N C R) {h r:Nat} {lo hi:Int} {m:Nat} {L:List E} (t:Tr N h r lo hi m L) (hm:(if h=0 then 1 else 2)≤m) (hn:n≤511):h≤4:=by
 have hm1:1≤m:=by split at hm<;>omega
 obtain ⟨a1,a2,a3⟩:=Jy t hm1
 have hs:=t.srt.1
 rw[←a1] at hs
 have hd:=G7 hs (fun p hp=>(a2 p hp).1)
 have hl:=MR hd (fun p hp=>by obtain ⟨d,hd⟩:=(a2 p hp).2;exact (I.nin p _ hd).2.1)
 rcases Nat.lt_or_ge h 5 with q|q
 ·omega
 ·exfalso
  rw[if_neg (by omega)] at a3 hm
  have:4 ^ 4≤4 ^ (h - 1):=Nat.pow_le_pow_right (by omega) (by omega)
  have h2:2 * 4 ^ (h - 1)≤m * 4 ^ (h - 1):=Nat.mul_le_mul_right _ hm
  simp at a3
  omega
theorem Pf {N:Hm} {h:Nat} {lo hi:Int} {L X Y:List E} {e:E} {key:Int} (hs:Srt (X++e::Y)) (hr:Bt lo hi (X++e::Y)) (hB:Bd N (h+1) (X++e::Y) hi L) (hX:X=[]∨e.1≤key) (hY:∀ x∈Y,key<x.1∧e.1<x.1):∃ Lc,Tr N h e.2 e.1 (nx Y hi) 4 Lc∧∀ v,(key,v)∈Lc↔(key,v)∈L:=by
 obtain ⟨L0,Lc,L2,rfl,h1,h2,h3⟩:=Sq.at hB
 obtain ⟨s1,s2,s3⟩:=Srt.app.1 hs
 have a1:=Sq.srt h1 s1 (fun x hx=>s3 x hx e (by simp)) (fun _ _ _ _ q=>Tr.srt q)
 have a3:=Sq.srt h3 (Srt.cons.1 s2).2 (fun x hx=>(hr x (by simp[hx])).2) (fun _ _ _ _ q=>Tr.srt q)
 refine ⟨Lc,h2,fun v=>⟨fun q=>by simp[q],fun q=> ?_⟩⟩
 rcases List.mem_append.1 q with q|q
 ·exfalso
  rcases hX with rfl|hX
  ·simp only[Sq] at h1;subst h1;simp at q
  ·have:=a1.2.1 _ q;dsimp only at this;omega
 ·rcases List.mem_append.1 q with q|q
  ·exact q
  ·exfalso
   cases Y with
   | nil=>simp only[Sq] at h3;subst h3;simp at q
   | cons y t=>
    have:=a3.2.1 _ q
    have:=hY y (by simp)
    simp only[nx] at *;omega
end
section
open Go.RowKit
variable {Tb:Ae}
theorem MS (pp mb n:Nat) (o:TB) (s:TS×List Nat):Cn prog 56 [Pt_ pp] [trA Tb pp mb n o (some s)] (fun v Γ=>v=Iv_ 0∧Γ=[trA Tb pp mb n o (some s)]):=by
 intro z R w H;replace H:=H.l1;refine Ad func56 rfl ntmps56 rfl (Zc 19 rfl (z_E_ rfl (call81 _) (J9 pp mb n o _) H ?_));intro w H;replace H:=H.l1;refine AJ 6 (v:= .bool true) rfl rfl (Zc 12 rfl (Zr rfl ?_));exact ⟨_,⟨rfl,rfl⟩,H⟩
theorem X4 (pp mb n:Nat) (o:TB) (t:TS) (Q:List Nat) (key:Int) (val:Nat) (b:List UInt8) (hkk:0≤key∧key<1048576) (hvd:t.N val=some (.dt b)) (hk:t.k<40):Cn prog 30 [Pt_ pp,Iv_ 0,Iv_ key,Iv_ (val:Int)] [trA Tb pp mb n o (some (t,val::Q))] (fun v Γ=>(cnt t.F 0 1024≤0∧∃ s:TS×List Nat,v= .tuple #[Iv_ 0,Iv_ 20]∧Γ=[trA Tb pp mb n o (some s)])∨∃ (t2:TS) (r:Nat),(St t t2 Q 1 1∧Tr t2.N 0 r 0 1048576 1 (putE key val []))∧v= .tuple #[Iv_ (r:Int),Iv_ 0]∧Γ=[trA Tb pp mb n o (some (t2,r::Q))]):=by
 intro z R w H;replace H:=H.l1;have K:=H.says 0 rfl (fun h a=>trA.k a)
 have hn:=K.hn
 have hvr:=K.i.rin val (by simp[Ci])
 have hvp:=K.i.pos (p:=val) (by simp[Ci])
 have hvp:1≤t.C val:=hvp
 obtain ⟨hb1,hb2,hb3,hb4⟩:=Th hvd hkk;refine Ad func30 rfl ntmps30 rfl (Zc 10 rfl (z_E_ rfl (call56 _) (MS pp mb n o _) H ?_));intro w H;refine Z0 18 [4,0] rfl (Ak 21 rfl (fun h1=> ?_) (fun h1=> ?_))
 ·(exfalso;omega)
 ·refine Z0 4 [0] rfl (Ak 25 rfl (fun h2=> ?_) (fun h2=> ?_))
  ·(exfalso;omega)
  ·refine Zc 2 rfl (z_E_ rfl (call39 _) (J8 pp mb n o _ val (by omega)) H ?_);intro w H;replace H:=H.l1;refine AJ 28 (v:=Iv_ (t.C val:Int)) rfl rfl (Z0 4 [0] rfl (Af rfl (fun h3=> ?_) (fun h3=> ?_)))
   ·(exfalso;omega)
   ·refine Z0 14 [3] rfl (AO rfl (AI H rfl (by kernel_rfl) Bb rfl (by decide) (by decide) (out:=[Iv_ key]) (by kernel_rfl)) ?_);rintro _ w ⟨b1,rfl,H⟩;replace H:=H.l2;refine Zc 1 rfl (AO rfl (AI H rfl (by kernel_rfl) Bb rfl (by decide) (by decide) (out:=[Iv_ (val:Int)]) (by kernel_rfl)) ?_);rintro _ w ⟨b2,rfl,H⟩;replace H:=H.l3;refine Zc 1 rfl (Ar rfl (call62 _) (GC pp mb n o t Q true _ _ [(key,val)] _ _ (fun h q=>q.rd (by omega) (by omega) (by simp) rfl) (fun h q=>q.rd (by omega) (by omega) (by simp) rfl) 0 0 1048576 1 (putE key val []) hb1 rfl hb2 (by simp) hb3 hb4 hk) H.f1.f2 ?_);rintro _ w _ (⟨hnt2,rfl,rfl⟩|⟨t2,rt2,⟨hSt2,hTt2,hqt2⟩,rfl,rfl⟩) H'
    ·have H:=H'.l3;refine Zc 7 rfl (Zr rfl ?_);exact ⟨_,.inl ⟨by omega,_,rfl,rfl⟩,H.perm 3 [0] rfl rfl⟩
    ·have H:=H'.l3;refine Zc 7 rfl (Zr rfl ?_);exact ⟨_,.inr ⟨t2,rt2,⟨hSt2,hTt2⟩,rfl,rfl⟩,H.perm 3 [0] rfl rfl⟩
set_option maxHeartbeats 1000000 in
theorem X5 (pp mb n:Nat) (o:TB) (t:TS) (Q:List Nat) (h a:Nat) (m:Nat) (key:Int) (val:Nat) (L:List E) (hP:InsPre n t Q a h 0 1048576 m key val L):Cn prog 30 [Pt_ pp,Iv_ (a:Int),Iv_ key,Iv_ (val:Int)] [trA Tb pp mb n o (some (t,a::val::Q))] (fun v Γ=>(cnt t.F 0 1024≤2 * h+2∧∃ s:TS×List Nat,v= .tuple #[Iv_ 0,Iv_ 20]∧Γ=[trA Tb pp mb n o (some s)])∨∃ (t2:TS) (r:Nat),(St t t2 Q (2 * h+3) (3 * h+4)∧(Tr t2.N h r 0 1048576 m (putE key val L)∨Tr t2.N (h+1) r 0 1048576 2 (putE key val L)))∧v= .tuple #[Iv_ (r:Int),Iv_ 0]∧Γ=[trA Tb pp mb n o (some (t2,r::Q))]):=by
 intro z R w H;replace H:=H.l1;have K:=H.says 0 rfl (fun h a=>trA.k a)
 have hn:=K.hn
 have hkk:=hP.kk
 have hvr:=K.i.rin val (by simp[Ci])
 have hvp:=K.i.pos (p:=val) (by simp[Ci])
 have hvp:1≤t.C val:=hvp
 have har:=K.i.rin a (by simp[Ci])
 refine Ad func30 rfl ntmps30 rfl (Zc 10 rfl (z_E_ rfl (call56 _) (MS pp mb n o _) H ?_));intro w H;refine Z0 18 [4,0] rfl (Ak 21 rfl (fun h1=> ?_) (fun h1=> ?_))
 ·(exfalso;omega)
 ·refine Z0 4 [0] rfl (Ak 25 rfl (fun h2=> ?_) (fun h2=> ?_))
  ·(exfalso;omega)
  ·refine Zc 2 rfl (z_E_ rfl (call39 _) (J8 pp mb n o _ val (by omega)) H ?_);intro w H;replace H:=H.l1;refine AJ 28 (v:=Iv_ (t.C val:Int)) rfl rfl (Z0 4 [0] rfl (Af rfl (fun h3=> ?_) (fun h3=> ?_)))
   ·(exfalso;omega)
   ·refine Z0 9 [0] rfl (Af rfl (fun h4=> ?_) (fun h4=> ?_))
    ·(exfalso;omega)
    ·refine Zc 8 rfl (Ar rfl (call63 _) (MQ pp mb n o h t Q a 0 1048576 m key val L hP) H ?_);rintro _ w _ (⟨hf2,s2,rfl,rfl⟩|⟨t2,c2,⟨hSt2,hT2⟩,rfl,rfl⟩|⟨t2,c2,kr,r,M1,M2,⟨hSt2,hLs,hk1,hk2,hT2,hT3⟩,rfl,rfl⟩) H'
     ·have H:=H'.l1;refine Za 3 [] H rfl ?_;intro b1 w H;refine Z4 27 [0,3,0,0,0] H rfl ?_;intro w H;refine Zr rfl ?_;exact ⟨_,.inl ⟨by omega,_,rfl,rfl⟩,H.perm 2 [1] rfl rfl⟩
     ·have H:=H'.l1;refine Za 3 [] H rfl ?_;intro b2 w H;refine Z4 27 [0,4,2,0,0,3,0,0,0] H rfl ?_;intro w H;refine Zr rfl ?_;exact ⟨_,.inr ⟨t2,c2,⟨hSt2.sub (fun p hp=>hp) (by omega) (by omega),.inl hT2⟩,rfl,rfl⟩,H.perm 2 [1] rfl rfl⟩
     ·have H:=H'.l1;refine Za 3 [] H rfl ?_;intro b3 w H;refine Z4 6 [0] H rfl ?_;intro w H;have hr0:manyN n+1≤r:=by have K3:=H.says 1 rfl (fun h a=>trA.k a);exact (K3.i.rin r (by simp[Ci])).1
      refine Z2 10 [4,2,0,0,0] H rfl (Af rfl (fun h5=> ?_) (fun h5=> ?_))
      ·(exfalso;omega)
      ·refine Zc 3 rfl ?_;obtain ⟨es,hNc,hmc,hrc,hoc,hBc⟩:=Tr.iff.1 hT2;obtain ⟨hb1,hb2,hb3,hb4⟩:=root_two hT2 hNc hT3 hk2;refine Z2 4 [0,0,0] H rfl (Ar rfl (call50 _) (Fc pp mb n o (some (t2,c2::r::Q)) c2 (decide (h=0)) es hNc) H.f1 ?_);rintro _ w _ ⟨v4,v5,rfl,rfl⟩ H;replace H:=H.l4;have sv4:=H.says 0 rfl (fun h q=>q.slc)
       have sv5:=H.says 1 rfl (fun h q=>q.slc)
       refine Za 3 [] H rfl ?_;intro b6 w H;refine AC rfl rfl (Ai 0 H rfl rfl rfl rfl (vs:=[.bool (decide (h=0)),v4,v5]) rfl (Ac rfl (Ac sv4.one (Ac sv5.one Aw))) (by kernel_rfl) (by simp) (out:=[.bool (decide (h=0)),v4,v5]) rfl) ?_;rintro w H;replace H:=H.l5;refine Z0 14 [4] rfl ?_;obtain ⟨ao1,cc1,rfl⟩:=sv4;have hat:=(H.rd 1 rfl (fun h q=>q.rd)).at (j:=0) (u:=Iv_ (nx es kr)) (by rw[List.getElem?_map,EI hmc];rfl)
       replace H:=H.f1.f1.f4;refine AK (Sep z (blk b3 [Iv_ (c2:Int),Iv_ kr,Iv_ (r:Int)] 106::blk b6 [.bool (decide (h=0)),.slice ao1 ((kL es).length) cc1,v5] 92::grow 3 1 (.slice ao1 ((kL es).length) cc1) ((kL es).length) ((kL es).map Iv_)::R)) 19 rfl (by kernel_rfl) (Bc H fun w H'=> ?_)
       have H:=H'.l5;refine AZ [0,1,2] [1,1,0] [] (by exact (H.pick 5 [0,1,2] rfl)) rfl (by kernel_rfl) rfl (BC 3 rfl (by kernel_rfl) (by kernel_rfl) (by kernel_rfl) rfl rfl rfl (Ao rfl (z:=1) (j:=0) (r:=0) (by kernel_rfl) rfl rfl rfl (by simp only[List.length_map];omega) hat (by omega)) (H.pick 5 [0,1,2] rfl) (BC 4 rfl (by kernel_rfl) (by kernel_rfl) (by kernel_rfl) rfl rfl rfl (Az rfl rfl (by kernel_rfl) (fun _ hx'=>(hx'.rd 2 rfl (fun h q=>q.rd)).at (j:=0) (u:=Iv_ (nx es kr)) (by rw[List.getElem?_map,EI hmc];rfl))) (H.pick 5 [0,1,2] rfl) ?_));refine AZ [5,6,8,9,10,11] [1,0,0,0,0,0,2,0,0] [] (by exact (H.pick 5 [0,1,2] rfl)) rfl (by kernel_rfl) rfl (AE [7,12] (by kernel_rfl) (by simp) (JB ?_ ?_))
       ·refine B6 rfl rfl rfl rfl (AI H rfl (by kernel_rfl) Bb rfl (by decide) (by decide) (out:=[Iv_ (nx es kr),Iv_ kr]) (by kernel_rfl)) ?_;rintro _ w ⟨b7,rfl,H⟩;replace H:=H.l6;refine Ax (H.pick 6 [1,2,3] rfl) (AE [12] (by kernel_rfl) (by simp) (AB (B6 rfl rfl rfl rfl (AI H rfl (by kernel_rfl) Bb rfl (by decide) (by decide) (out:=[Iv_ (c2:Int),Iv_ (r:Int)]) (by kernel_rfl)) ?_)));rintro _ w ⟨b8,rfl,H⟩;replace H:=H.l7;refine Ax (H.pick 7 [2,3,4] rfl) (AZ [13] [] [] (by exact (H.pick 7 [2,3,4] rfl)) rfl (by kernel_rfl) rfl (AE [14] (by kernel_rfl) (by simp) (AB (B0 rfl rfl rfl rfl rfl rfl (fun w=>call62 _ w) (GC pp mb n o t2 Q false _ _ [(nx es kr,c2),(kr,r)] _ _ (fun h q=>q.rd (by omega) (by omega) (by simp) rfl) (fun h q=>q.rd (by omega) (by omega) (by simp) rfl) (h+1) 0 1048576 2 (putE key val L) (by rw[hLs];exact hb1) (by simp) hb2 (by simp) hb3 hb4 (by have:=hSt2.k;have:=hP.hk;omega)) H.f1.f6 rfl ?_))));rintro _ w _ (⟨hnt3,rfl,rfl⟩|⟨t3,rt3,⟨hSt3,hTt3,hqt3⟩,rfl,rfl⟩) H'
        ·have H:=H'.l7;refine Ax (H.pick 7 [3,4,5] rfl) (AZ [15,16,17,18] [] [] (by exact (H.pick 7 [3,4,5] rfl)) rfl (by kernel_rfl) rfl (a_done (by kernel_rfl) (gn (Zc 2 rfl (Zr rfl ?_)))));exact ⟨_,.inl ⟨by have:=hSt2.f;omega,_,rfl,rfl⟩,H.perm 7 [0] rfl rfl⟩
        ·have H:=H'.l7;refine Ax (H.pick 7 [3,4,5] rfl) (AZ [15,16,17,18] [] [] (by exact (H.pick 7 [3,4,5] rfl)) rfl (by kernel_rfl) rfl (a_done (by kernel_rfl) (gn (Zc 2 rfl (Zr rfl ?_)))));exact ⟨_,.inr ⟨t3,rt3,⟨hSt2.trans hSt3 (fun p hp=>hp) (fun p hp=>hp) (by omega) (by omega),.inr hTt3⟩,rfl,rfl⟩,H.perm 7 [0] rfl rfl⟩
       ·refine B6 rfl rfl rfl rfl (AI H rfl (by kernel_rfl) Bb rfl (by decide) (by decide) (out:=[Iv_ (c2:Int),Iv_ (r:Int)]) (by kernel_rfl)) ?_;rintro _ w ⟨b9,rfl,H⟩;replace H:=H.l6;refine Ax (H.pick 6 [1,2,3] rfl) (AE [7] (by kernel_rfl) (by simp) (AB (B6 rfl rfl rfl rfl (AI H rfl (by kernel_rfl) Bb rfl (by decide) (by decide) (out:=[Iv_ (nx es kr),Iv_ kr]) (by kernel_rfl)) ?_)));rintro _ w ⟨b10,rfl,H⟩;replace H:=H.l7;refine Ax (H.pick 7 [2,3,4] rfl) (AZ [13] [] [] (by exact (H.pick 7 [2,3,4] rfl)) rfl (by kernel_rfl) rfl (AE [14] (by kernel_rfl) (by simp) (AB (B0 rfl rfl rfl rfl rfl rfl (fun w=>call62 _ w) (GC pp mb n o t2 Q false _ _ [(nx es kr,c2),(kr,r)] _ _ (fun h q=>q.rd (by omega) (by omega) (by simp) rfl) (fun h q=>q.rd (by omega) (by omega) (by simp) rfl) (h+1) 0 1048576 2 (putE key val L) (by rw[hLs];exact hb1) (by simp) hb2 (by simp) hb3 hb4 (by have:=hSt2.k;have:=hP.hk;omega)) H.f1.f1.f6 rfl ?_))));rintro _ w _ (⟨hnt3,rfl,rfl⟩|⟨t3,rt3,⟨hSt3,hTt3,hqt3⟩,rfl,rfl⟩) H'
        ·have H:=H'.l7;refine Ax (H.pick 7 [3,4,5] rfl) (AZ [15,16,17,18] [] [] (by exact (H.pick 7 [3,4,5] rfl)) rfl (by kernel_rfl) rfl (a_done (by kernel_rfl) (gn (Zc 2 rfl (Zr rfl ?_)))));exact ⟨_,.inl ⟨by have:=hSt2.f;omega,_,rfl,rfl⟩,H.perm 7 [0] rfl rfl⟩
        ·have H:=H'.l7;refine Ax (H.pick 7 [3,4,5] rfl) (AZ [15,16,17,18] [] [] (by exact (H.pick 7 [3,4,5] rfl)) rfl (by kernel_rfl) rfl (a_done (by kernel_rfl) (gn (Zc 2 rfl (Zr rfl ?_)))));exact ⟨_,.inr ⟨t3,rt3,⟨hSt2.trans hSt3 (fun p hp=>hp) (fun p hp=>hp) (by omega) (by omega),.inr hTt3⟩,rfl,rfl⟩,H.perm 7 [0] rfl rfl⟩
end
section
open Go.RowKit
variable {Tb:Ae}
theorem V9 (pp mb n:Nat) (o:TB) (T:TT) (key:Int) (L:List E) (h0 r0:Nat) (lo0 hi0:Int) (m0:Nat) (hT0:Tr (EH o T) h0 r0 lo0 hi0 m0 L):Cn prog 57 [Pt_ pp,Iv_ (r0:Int),Iv_ key] [trA Tb pp mb n o T] (fun v Γ=>((∃ v0:Nat,(key,v0)∈L∧v= .tuple #[Iv_ (v0:Int),Iv_ 0])∨(¬ Cr key L∧v= .tuple #[Iv_ 0,Iv_ 0]))∧Γ=[trA Tb pp mb n o T]):=by
 intro z R w H;replace H:=H.l1;have K:=H.says 0 rfl (fun h a=>trA.k a)
 have hn:=K.hn
 refine Ad func57 rfl ntmps57 rfl (Zc 18 rfl ?_);refine AH (σ:=Nat×Nat×List E) (fun ⟨h,r,L1⟩=>[(1,Iv_ (r:Int)),(0,Pt_ pp),(2,Iv_ key)])
   (fun ⟨h,r,L1⟩ w=>Sep z (trA Tb pp mb n o T::R) w∧((∃ lo hi m,Tr (EH o T) h r lo hi m L1)∧∀ v,(key,v)∈L1↔(key,v)∈L)) (fun ⟨h,r,L1⟩=>h) ⟨h0,r0,L⟩
   (fun _ hF=>(hF.all rfl)) ⟨H,⟨⟨_,_,_,hT0⟩,fun _=>Iff.rfl⟩⟩ ?_
 clear H;rintro ⟨h,r,L1⟩ w ⟨H',hI⟩;dsimp only at hI H' ⊢
 have H:=H'.l1;obtain ⟨⟨lo,hi,m,hT⟩,hiff⟩:=hI;obtain ⟨es,hN,hm,hrg,hok,hBd⟩:=Tr.iff.1 hT;have hnr:=K.i.nin r _ hN
 refine Z0 7 [0] rfl (Af rfl (fun h1=> ?_) (fun h1=> ?_))
 ·refine Zc 7 rfl (Ar rfl (call50 _) (Fc pp mb n o T r (decide (h=0)) es hN) H ?_);rintro _ w _ ⟨v1,v2,rfl,rfl⟩ H;replace H:=H.l3;have sv1:=H.says 0 rfl (fun h q=>q.slc)
  have sv2:=H.says 1 rfl (fun h q=>q.slc)
  refine Za 3 [] H rfl ?_;intro b1 w H;refine AC rfl rfl (Ai 0 H rfl rfl rfl rfl (vs:=[.bool (decide (h=0)),v1,v2]) rfl (Ac rfl (Ac sv1.one (Ac sv2.one Aw))) (by kernel_rfl) (by simp) (out:=[.bool (decide (h=0)),v1,v2]) rfl) ?_;rintro w H;replace H:=H.l4;refine Z2 20 [4,0,0,0] H rfl (FF rfl (fun h2=> ?_) (fun h2=> ?_))
  ·have hh0:h=0:=of_decide_eq_true h2
   have hLe:L1=es:=by subst hh0;exact hBd.1
   refine Z2 5 [0,3] H rfl (Ar rfl (call94 _) (MN (es:=es) (fun h q=>q.rd) (fun h q=>q.rd) hok.len hok.srt key) H.f2.f2 ?_);rintro _ w _ (⟨X,v0,Y,⟨hes,hX⟩,rfl,rfl⟩|⟨hno,i0,rfl,rfl⟩) H'
   ·have H:=H'.l4;refine Zc 14 rfl ?_;obtain ⟨ao2,cc2,rfl⟩:=sv2;have hat:=(H.rd 1 rfl (fun h q=>q.rd)).at (j:=X.length) (u:=Iv_ (v0:Int)) (by rw[hes];simp[vL])
    refine Z2 4 [2,2,0] H rfl (Ab rfl (Ao rfl (z:=1) (j:=X.length) (r:=X.length) (by kernel_rfl) rfl rfl rfl (by rw[hes];simp) hat (by omega)) (Ab rfl (Az rfl rfl (by kernel_rfl) (Av hat)) (Zc 5 rfl (Zr rfl ?_))));exact ⟨_,⟨.inl ⟨v0,(hiff v0).1 (by rw[hLe,hes];simp),rfl⟩,rfl⟩,H.perm 4 [3] rfl rfl⟩
   ·have H:=H'.l4;refine Zc 22 rfl (Zr rfl ?_);exact ⟨_,⟨.inr ⟨fun ⟨v,hv⟩=>hno ⟨v,by rw[←hLe];exact (hiff v).2 hv⟩,rfl⟩,rfl⟩,H.perm 4 [3] rfl rfl⟩
  ·obtain ⟨h',rfl⟩:∃ h',h=h'+1:=⟨h - 1,by have:=of_decide_eq_false h2;omega⟩;refine Zc 2 rfl ?_;obtain ⟨ao2,cc2,rfl⟩:=sv2;replace H:=H.f2.f1;refine AK (Sep z (blk b1 [.bool (decide ((h'+1)=0)),v1,.slice ao2 ((vL es).length) cc2] 92::grow 3 1 (.slice ao2 ((vL es).length) cc2) ((vL es).length) ((vL es).map Iv_)::R)) 8 rfl (by kernel_rfl) (Bc H fun w H'=> ?_)
   have H:=H'.l4;refine AZ [0,1,2,3] [2,0,0,0,3] [] (by exact (H.pick 4 [0,1] rfl)) rfl (by kernel_rfl) rfl (AE [4] (by kernel_rfl) (by simp) (AB (B0 rfl rfl rfl rfl rfl rfl (fun w=>call95 _ w) (Kg (es:=es) (fun h q=>q.rd) (fun h q=>q.rd) hok.len hok.srt (hok.ne (by simp)) key) H.f1.f2 rfl ?_)));rintro _ w _ ⟨X,e,Y,⟨hes,hX,hXe,hY⟩,rfl,rfl⟩ H;replace H:=H.l4;obtain ⟨Lc,hTc,hLc⟩:=Pf (by rw[←hes];exact hok.srt) (by rw[←hes];exact hrg) (by rw[←hes];exact hBd) hX hY;have hat:=(H.rd 1 rfl (fun h q=>q.rd)).at (j:=X.length) (u:=Iv_ (e.2:Int)) (by rw[hes];simp[vL])
   refine Ax (H.pick 4 [2,1] rfl) (BC 5 rfl (by kernel_rfl) (by kernel_rfl) (by kernel_rfl) rfl rfl rfl (Ao rfl (z:=1) (j:=X.length) (r:=X.length) (by kernel_rfl) rfl rfl rfl (by rw[hes];simp) hat (by omega)) (H.pick 4 [2,1] rfl) (BC 6 rfl (by kernel_rfl) (by kernel_rfl) (by kernel_rfl) rfl rfl rfl (Az rfl rfl (by kernel_rfl) (fun _ hx'=>(hx'.rd 1 rfl (fun h q=>q.rd)).at (j:=X.length) (u:=Iv_ (e.2:Int)) (by rw[hes];simp[vL]))) (H.pick 4 [2,1] rfl) (AZ [7] [] [] (by exact (H.pick 4 [2,1] rfl)) rfl (by kernel_rfl) rfl (a_done (by kernel_rfl) (gn (Zc 1 rfl ?_))))));replace H:=H.f2.d.f1.d.d;refine gf ?_;intro _ hF;refine ⟨⟨h',e.2,Lc⟩,(hF.all rfl),⟨H,?_⟩,?_⟩
   ·exact ⟨⟨_,_,_,hTc⟩,fun v=>(hLc v).trans (hiff v)⟩
   ·(dsimp only;omega)
 ·(exfalso;omega)
end
section
open Go.RowKit
variable {Tb:Ae}
theorem Bd.nd {N:Hm} {h:Nat} {es:List E} {hi:Int} {L:List E} (q:Bd N h es hi L) (hs:Srt es) (hr:∀ e∈es,e.1<hi) (hd:(vals L).Nodup):(vals es).Nodup:=by
 cases h with
 | zero=>obtain ⟨rfl,_⟩:=q;exact hd
 | succ h=>exact Bd.nodup q hs hr
theorem CW (a:Nat) (X Y:List E):(vals (X++Y)).count a=(vals X).count a+(vals Y).count a:=by simp[vals]
theorem Do (a:Nat) (e:E) (Y:List E):(vals (e::Y)).count a=(vals Y).count a+if e.2 == a then 1 else 0:=by rw[BA,List.count_cons]
theorem ZL (X Y:List E) (e1 e2:E) (Q:List Nat):(vals (X++e1::e2::Y)++Q).Perm (e1.2::(vals X++(e2.2::(vals Y++Q)))):=
 List.perm_iff_count.2 fun a=>by
  simp only[List.count_append,List.count_cons,CW,Do];omega
theorem ZM (c1 c2:Nat) (A B D:List Nat):(c1::(A++(B++(c2::D)))).Perm (c2::(c1::(A++(B++D)))):=
 List.perm_iff_count.2 fun a=>by simp only[List.count_append,List.count_cons];omega
theorem ZN (c1 c2:Nat) (es1 es2 x y:List E) (W:List Nat) (h:es1++es2=x++y):(c2::(vals es2++(c1::(vals es1++W)))).Perm (c1::(vals x++(c2::(vals y++W)))):=
 List.perm_iff_count.2 fun a=>by
  have e:=congrArg (fun l=>(vals l).count a) h
  simp only[CW] at e
  simp only[List.count_append,List.count_cons];omega
theorem ZA (c1 c2:Nat) (es1 es2:List E) (W:List Nat):(c2::(vals es2++(c1::(vals es1++W)))).Perm (c1::(vals (es1++es2)++(c2::W))):=
 List.perm_iff_count.2 fun a=>by simp only[List.count_append,List.count_cons,CW];omega
theorem ZO (c1 c2:Nat) (A W:List Nat):(c1::(c2::(A++W))).Perm (c2::(A++(c1::W))):=
 List.perm_iff_count.2 fun a=>by simp only[List.count_append,List.count_cons];omega
theorem ZP (c1:Nat) (k:Int) (X Y:List E) (Q:List Nat):(c1::(vals X++(vals Y++Q))).Perm (vals (X++(k,c1)::Y)++Q):=
 List.perm_iff_count.2 fun a=>by simp only[List.count_append,List.count_cons,CW,Do];omega
theorem ZQ (c1 c2:Nat) (k k2:Int) (X Y:List E) (Q:List Nat):(c2::(c1::(vals X++(vals Y++Q)))).Perm (vals (X++(k,c1)::(k2,c2)::Y)++Q):=
 List.perm_iff_count.2 fun a=>by simp only[List.count_append,List.count_cons,CW,Do];omega
structure MnPre (n:Nat) (t:TS) (Q:List Nat) (h:Nat) (lo hi:Int) (X Y:List E) (e1 e2:E) (m1 m2:Nat) (L0 La Lb L2:List E):Prop where
 ok:(Nd.mk false (X++e1::e2::Y)).Ok
 r:Bt lo hi (X++e1::e2::Y)
 q0:Sq (fun c a b L=>Tr t.N h c a b 4 L) X e1.1 L0
 ta:Tr t.N h e1.2 e1.1 e2.1 m1 La
 tb:Tr t.N h e2.2 e2.1 (nx Y hi) m2 Lb
 q2:Sq (fun c a b L=>Tr t.N h c a b 4 L) Y hi L2
 m3:3≤m1∧3≤m2∧7≤m1+m2
 l0:0≤lo
 h1:hi≤1048576
 d:(vals (La++Lb)).Nodup
 hk:t.k+5<40
 hb:Q.length+30+n≤980
variable {t t1 t2 t3:TS} {Q:List Nat} {h:Nat} {lo hi:Int} {X Y:List E} {e1 e2:E} {L0 La Lb L2 es1 es2:List E}
theorem QV (ok:Srt (X++e1::e2::Y)) (r:Bt lo hi (X++e1::e2::Y)):e1.1<e2.1∧e2.1<nx Y hi∧nx Y hi≤hi∧lo≤e1.1:=by
 obtain ⟨_,s2,_⟩:=Srt.app.1 ok
 obtain ⟨s3,s4⟩:=Srt.cons.1 s2
 have h2:=r e2 (by simp)
 refine ⟨s3 e2 (by simp),?_,Pb (fun x hx=>(r x (by simp[hx])).2),(r e1 (by simp)).1⟩
 cases Y with
 | nil=>exact h2.2
 | cons y u=>exact (Srt.cons.1 s4).1 y (by simp)
theorem Wa {N:Hm} (b1:Bd N h es1 e2.1 La) (b2:Bd N h es2 (nx Y hi) Lb) (s1:Srt es1) (s2:Srt es2) (r1:Bt e1.1 e2.1 es1) (r2:Bt e2.1 (nx Y hi) es2) (hne:es2≠[]) (h12:e1.1<e2.1) (h2:e2.1<nx Y hi):
  Bd N h (es1++es2) (nx Y hi) (La++Lb)∧Srt (es1++es2)∧Bt e1.1 (nx Y hi) (es1++es2):=by
 refine ⟨Bd.app.2 ⟨La,Lb,rfl,b1.hi ?_,b2⟩,Srt.app.2 ⟨s1,s2,fun a ha b hb=> ?_⟩,fun x hx=> ?_⟩
 ·obtain ⟨y,u,rfl⟩:=List.exists_cons_of_ne_nil hne
  exact (r2 y (by simp)).1
 ·have:=r1 a ha;have:=r2 b hb;omega
 ·rcases List.mem_append.1 hx with hx|hx
  ·have:=r1 x hx;omega
  ·have:=r2 x hx;omega
theorem Og {N:Hm} {c1:Nat} (ok:(Nd.mk false (X++e1::e2::Y)).Ok) (r:Bt lo hi (X++e1::e2::Y)) (q0:Sq (fun c a b L=>Tr N h c a b 4 L) X e1.1 L0) (q2:Sq (fun c a b L=>Tr N h c a b 4 L) Y hi L2) (T:Tr N h c1 e1.1 (nx Y hi) 4 (La++Lb)):
  Bd N (h+1) (X++(e1.1,c1)::Y) hi (L0++(La++(Lb++L2)))∧Bt lo hi (X++(e1.1,c1)::Y)∧(Nd.mk false (X++(e1.1,c1)::Y)).Ok∧(vals (X++(e1.1,c1)::Y)).Nodup:=by
 have hs:Srt (X++e1::e2::Y):=ok.srt
 obtain ⟨s1,s2,s3⟩:=Srt.app.1 hs
 obtain ⟨s4,s5⟩:=Srt.cons.1 s2
 have hs':Srt (X++(e1.1,c1)::Y):=Srt.app.2 ⟨s1,Srt.cons.2 ⟨fun x hx=>s4 x (by simp[hx]),(Srt.cons.1 s5).2⟩,fun a ha b hb=>by
  rcases List.mem_cons.1 hb with rfl|hb
  ·exact s3 a ha e1 (by simp)
  ·exact s3 a ha b (by simp[hb])⟩
 have hr':Bt lo hi (X++(e1.1,c1)::Y):=fun x hx=>by
  rcases List.mem_append.1 hx with hx|hx
  ·exact r x (by simp[hx])
  ·rcases List.mem_cons.1 hx with rfl|hx
   ·exact r e1 (by simp)
   ·exact r x (by simp[hx])
 have hB:Bd N (h+1) (X++(e1.1,c1)::Y) hi (L0++(La++(Lb++L2))):=by
  have e:L0++(La++(Lb++L2))=L0++((La++Lb)++L2):=by simp
  rw[e];exact Sq.mk (e:=(e1.1,c1)) q0 T q2
 have hl:(X++e1::e2::Y).length≤8:=ok.len
 refine ⟨hB,hr',⟨hs',by simp at hl ⊢;omega,fun x hx=> ?_,fun _=>by simp⟩,hB.nodup hs' (fun x hx=>(hr' x hx).2)⟩
 rcases List.mem_append.1 hx with hx|hx
 ·exact ok.key x (by simp[hx])
 ·rcases List.mem_cons.1 hx with rfl|hx
  ·exact ok.key e1 (by simp)
  ·exact ok.key x (by simp[hx])
theorem mn_share {N:Hm} {c1 c2:Nat} {ky:Int} {M1 M2:List E} (ok:(Nd.mk false (X++e1::e2::Y)).Ok) (r:Bt lo hi (X++e1::e2::Y)) (q0:Sq (fun c a b L=>Tr N h c a b 4 L) X e1.1 L0) (q2:Sq (fun c a b L=>Tr N h c a b 4 L) Y hi L2) (T1:Tr N h c1 e1.1 ky 4 M1) (T2:Tr N h c2 ky (nx Y hi) 4 M2) (hM:M1++M2=La++Lb) (hk1:e1.1<ky) (hk2:ky<nx Y hi) (h1:hi≤1048576):
  Bd N (h+1) (X++(e1.1,c1)::(ky,c2)::Y) hi (L0++(La++(Lb++L2)))∧Bt lo hi (X++(e1.1,c1)::(ky,c2)::Y)∧(Nd.mk false (X++(e1.1,c1)::(ky,c2)::Y)).Ok∧(vals (X++(e1.1,c1)::(ky,c2)::Y)).Nodup:=by
 have hs:Srt (X++e1::e2::Y):=ok.srt
 obtain ⟨s1,s2,s3⟩:=Srt.app.1 hs
 obtain ⟨s4,s5⟩:=Srt.cons.1 s2
 obtain ⟨_,_,hhi,hlo⟩:=QV hs r
 have hsY:=(Srt.cons.1 s5).2
 have hkY:∀ x∈Y,ky<x.1:=fun x hx=>by
  cases Y with
  | nil=>simp at hx
  | cons y u=>
   simp only[nx] at hk2
   rcases List.mem_cons.1 hx with rfl|hx
   ·exact hk2
   ·have:=(Srt.cons.1 hsY).1 x hx;omega
 have hs':Srt (X++(e1.1,c1)::(ky,c2)::Y):=Srt.app.2 ⟨s1,Srt.cons.2 ⟨fun x hx=>by
   rcases List.mem_cons.1 hx with rfl|hx
   ·exact hk1
   ·exact s4 x (by simp[hx]),Srt.cons.2 ⟨hkY,hsY⟩⟩,fun a ha b hb=>by
  have ha1:=s3 a ha e1 (by simp)
  rcases List.mem_cons.1 hb with rfl|hb
  ·exact ha1
  ·rcases List.mem_cons.1 hb with rfl|hb
   ·dsimp only;omega
   ·exact s3 a ha b (by simp[hb])⟩
 have hall:∀ x∈X++(e1.1,c1)::(ky,c2)::Y,lo≤x.1∧x.1<hi:=fun x hx=>by
  rcases List.mem_append.1 hx with hx|hx
  ·exact r x (by simp[hx])
  ·rcases List.mem_cons.1 hx with rfl|hx
   ·exact r e1 (by simp)
   ·rcases List.mem_cons.1 hx with rfl|hx
    ·dsimp only;omega
    ·exact r x (by simp[hx])
 have hB:Bd N (h+1) (X++(e1.1,c1)::(ky,c2)::Y) hi (L0++(La++(Lb++L2))):=by
  have e:L0++(La++(Lb++L2))=L0++(M1++(M2++L2)):=by
   rw[←List.append_assoc La,←hM];simp
  rw[e];exact Sq.mk (e:=(e1.1,c1)) (B:=(ky,c2)::Y) q0 T1 ⟨M2,L2,rfl,T2,q2⟩
 have hl:(X++e1::e2::Y).length≤8:=ok.len
 have k1:=ok.key e1 (by simp)
 refine ⟨hB,hall,⟨hs',by simp at hl ⊢;omega,fun x hx=> ?_,fun _=>by simp⟩,hB.nodup hs' (fun x hx=>(hall x hx).2)⟩
 rcases List.mem_append.1 hx with hx|hx
 ·exact ok.key x (by simp[hx])
 ·rcases List.mem_cons.1 hx with rfl|hx
  ·exact k1
  ·rcases List.mem_cons.1 hx with rfl|hx
   ·dsimp only
    omega
   ·exact ok.key x (by simp[hx])
section
variable {lf:Bool} {kv1 vv1 kv2 vv2:Value} {es1 es2:List E} {A1 B1 A2 B2:Ae}
theorem Wb (hA1:Fl A1 kv1 es1) (hB1:Fm B1 vv1 es1) (hA2:Fl A2 kv2 es2) (hB2:Fm B2 vv2 es2) (hck1:CkN lf (kL es1) (vL es1)) (hck2:CkN lf (kL es2) (vL es2)) (hs:Srt (es1++es2)) (h8:8<es1.length+es2.length) (x y:List E) (hx:x=(es1++es2).take (EO es1 es2)) (hy:y=(es1++es2).drop (EO es1 es2)):
  Cn prog 136 [CO lf kv1 vv1,CO lf kv2 vv2] [A1,B1,A2,B2] (fun v Γ=>∃ v1 v2 v3 v4:Value,v= .tuple #[CO lf v1 v2,CO lf v3 v4,Iv_ 0]∧Γ=[gK v1 x,gV v2 x,gK v3 y,gV v4 y,A1,B1,A2,B2]):=by
 subst hx hy;exact V2 hA1 hB1 hA2 hB2 hck1 hck2 hs h8
end
theorem IV (X:List E):(vals X).length=X.length:=by simp[vals]
theorem Oh {α:Type} (x:List α) (a b:α) (y:List α):(x++a::b::y).take (x.length+1)++(x++a::b::y).drop (x.length+1+1)=x++a::y:=by
 have e1:x++a::b::y=(x++[a])++(b::y):=by simp
 have e2:x++a::b::y=(x++[a,b])++y:=by simp
 have h1:(x++a::b::y).take (x.length+1)=x++[a]:=by rw[e1];exact List.take_left' (by simp)
 have h2:(x++a::b::y).drop (x.length+1+1)=y:=by rw[e2];exact List.drop_left' (by simp)
 rw[h1,h2];simp
theorem Wc {lf:Bool} {kv vv:Value} {X Y:List E} {a b:E} {A B:Ae} (hA:Fl A kv (X++a::b::Y)) (hB:Fm B vv (X++a::b::Y)) (hck:CkN lf (kL (X++a::b::Y)) (vL (X++a::b::Y))) (hck2:CkN lf (kL (X++a::Y)) (vL (X++a::Y))):
  Cn prog 97 [CO lf kv vv,Iv_ ((X.length+1:Nat):Int)] [A,B] (fun v Γ=>∃ v1 v2:Value,v= .tuple #[CO lf v1 v2,Iv_ 0]∧Γ=[gK v1 (X++a::Y),gV v2 (X++a::Y),A,B]):=
 N5 lf kv vv _ _ A B hA hB hck (X.length+1) (by simp[kL]) (kL (X++a::Y)) (vL (X++a::Y)) (by simp only[kL,List.map_append,List.map_cons];have:=Oh (X.map Prod.fst) a.1 b.1 (Y.map Prod.fst);rw[List.length_map] at this;exact this) (by simp only[vL,List.map_append,List.map_cons];have:=Oh (X.map fun e=>(e.2:Int)) (a.2:Int) (b.2:Int) (Y.map fun e=>(e.2:Int));rw[List.length_map] at this;exact this) hck2
theorem Sq.st {t t':TS} {R:List Nat} {a b:Nat} (S:St t t' R a b) {h:Nat} {X:List E} {hi:Int} {L:List E} (hv:∀ v∈vals X,v∈R) (q:Sq (fun c a b L=>Tr t.N h c a b 4 L) X hi L):Sq (fun c a b L=>Tr t'.N h c a b 4 L) X hi L:=
 Sq.imp q fun x hx _ _ q=>S.fr _ (hv _ (List.mem_map_of_mem hx)) _ _ _ _ _ q
theorem St.t4 {t0 t1 t2 t3 t4:TS} {R1 R2 R3 R4 Q:List Nat} {k4:Nat} (a:St t0 t1 R1 1 1) (b:St t1 t2 R2 1 1) (c:St t2 t3 R3 0 1) (d:St t3 t4 R4 0 k4) (hk:k4≤1) (h1:∀ p∈Q,p∈R1) (h2:∀ p∈Q,p∈R2) (h3:∀ p∈Q,p∈R3) (h4:∀ p∈Q,p∈R4):St t0 t4 Q 2 4:=
 ((a.trans b h1 h2 (Nat.le_refl _) (Nat.le_refl _)).trans (c.trans d h3 h4 (Nat.le_refl _) (Nat.le_refl _)) (R:=Q) (R1:=Q) (R2:=Q) (fun _ q=>q) (fun _ q=>q) (by omega) (by omega))
abbrev X6 (Tb:Ae) (pp mb n:Nat) (o:TB) (t:TS) (Q:List Nat) (h:Nat) (lo hi:Int) (N8:Nat) (L:List E) (v:Value) (Γ:List Ae):Prop:=
 (cnt t.F 0 1024≤1∧∃ (v1 v2:Value) (es':List E) (s:TS×List Nat),v= .tuple #[CO false v1 v2,.int .i64 20]∧Γ=[gK v1 es',gV v2 es',trA Tb pp mb n o (some s)])∨
 ∃ (t2:TS) (es':List E) (v1 v2:Value),(St t t2 Q 2 4∧Bd t2.N (h+1) es' hi L∧Bt lo hi es'∧(Nd.mk false es').Ok∧(vals es').Nodup∧N8≤es'.length+1)∧v= .tuple #[CO false v1 v2,.int .i64 0]∧Γ=[gK v1 es',gV v2 es',trA Tb pp mb n o (some (t2,vals es'++Q))]
theorem X7 {c1 c2:Nat} (ok:(Nd.mk false (X++e1::e2::Y)).Ok):(Nd.mk false (X++(e1.1,c1)::(e2.1,c2)::Y)).Ok:=by
 have hs:Srt (X++e1::e2::Y):=ok.srt
 obtain ⟨s1,s2,s3⟩:=Srt.app.1 hs
 obtain ⟨s4,s5⟩:=Srt.cons.1 s2
 have hl:(X++e1::e2::Y).length≤8:=ok.len
 refine ⟨Srt.app.2 ⟨s1,Srt.cons.2 ⟨fun x hx=> ?_,Srt.cons.2 ⟨(Srt.cons.1 s5).1,(Srt.cons.1 s5).2⟩⟩,fun a ha b hb=> ?_⟩,by simp at hl ⊢;omega,fun x hx=> ?_,fun _=>by simp⟩
 ·rcases List.mem_cons.1 hx with rfl|hx
  ·exact s4 e2 (by simp)
  ·exact s4 x (by simp[hx])
 ·rcases List.mem_cons.1 hb with rfl|hb
  ·exact s3 a ha e1 (by simp)
  ·rcases List.mem_cons.1 hb with rfl|hb
   ·exact s3 a ha e2 (by simp)
   ·exact s3 a ha b (by simp[hb])
 ·have hx:x∈X++(e1.1,c1)::(e2.1,c2)::Y:=hx
  rcases List.mem_append.1 hx with hx|hx
  ·exact ok.key x (by simp[hx])
  ·rcases List.mem_cons.1 hx with rfl|hx
   ·exact ok.key e1 (by simp)
   ·rcases List.mem_cons.1 hx with rfl|hx
    ·exact ok.key e2 (by simp)
    ·exact ok.key x (by simp[hx])
end
section
open Go.RowKit
variable {Tb:Ae}
set_option maxHeartbeats 4000000 in
theorem X8 (pp mb n:Nat) (o:TB) (t:TS) (Q:List Nat) (kv vv:Value) (h:Nat) (lo hi:Int) (X Y:List E) (e1 e2:E) (m1 m2:Nat) (L0 La Lb L2:List E) (hP:MnPre n t Q h lo hi X Y e1 e2 m1 m2 L0 La Lb L2):Cn prog 99 [Pt_ pp,.agg #[.bool false,kv,vv],Iv_ (X.length:Int)] [trA Tb pp mb n o (some (t,vals (X++e1::e2::Y)++Q)),grow 3 1 kv ((kL (X++e1::e2::Y)).length) ((kL (X++e1::e2::Y)).map Iv_),grow 3 1 vv ((vL (X++e1::e2::Y)).length) ((vL (X++e1::e2::Y)).map Iv_)] (fun v Γ=>X6 Tb pp mb n o t Q h lo hi (X++e1::e2::Y).length (L0++(La++(Lb++L2))) v Γ):=by
 intro z R w H;replace H:=H.l3;obtain ⟨gk,capk,rest_gk,rfl,ck1,ck2,ck3,H⟩:=H.ungrow 1 rfl (by simp only[List.length_map,List.length_append,List.length_cons];omega);replace H:=H.l3;obtain ⟨gv,capv,rest_gv,rfl,cv1,cv2,cv3,H⟩:=H.ungrow 2 rfl (by simp only[List.length_map,List.length_append,List.length_cons];omega);replace H:=H.l3;have K:=H.says 0 rfl (fun h a=>trA.k a)
 have hn:=K.hn
 obtain ⟨hE1,hE2,hE3,hE4⟩:=QV hP.ok.srt hP.r;obtain ⟨m31,m32,m33⟩:=hP.m3;have hPk:=hP.hk;have hPb:=hP.hb
 have hl8:(X++e1::e2::Y).length≤8:=hP.ok.len
 have hl9:X.length+Y.length+2≤8:=by simp only[List.length_append,List.length_cons] at hl8;omega
 obtain ⟨es1,hN1,hm1,hr1,ho1,hB1⟩:=Tr.iff.1 hP.ta;have hes18:es1.length≤8:=ho1.len
 replace H:=(H.mono 0 (B:=trA Tb pp mb n o (some (t,e1.2::(vals X++(e2.2::(vals Y++Q)))))) rfl (fun h q=>q.perm (ZL X Y e1 e2 Q))).l3
 refine Ad func99 rfl ntmps99 rfl (Za 2 [] H rfl ?_);intro b1 w H;refine Za 0 [] H rfl ?_;intro b2 w H;refine Za 5 [] H rfl ?_;intro b3 w H;refine Zc 9 rfl (GS 3 (C5 (Z3 25 [3,2,2,0] [(X.length:Int)] H rfl (by omega) (Ab rfl (B4 rfl (z:=1) (j:=X.length) (r:=X.length) (by kernel_rfl) rfl rfl rfl (by simp only[List.length_map,List.length_append,List.length_cons];omega) (by omega)) (Ab rfl (AT rfl rfl (by kernel_rfl) (Av (H.cel 5 rfl X.length (show ((vL (X++e1::e2::Y)).map Iv_++rest_gv)[X.length]? =some (Iv_ (e1.2:Int)) from (by rw[List.getElem?_append_left (by simp),List.getElem?_map];simp[vL]))))) ?_)))));refine Ar rfl (call96 _) (Ie pp mb n o t (vals X++(e2.2::(vals Y++Q))) e1.2 (decide (h=0)) es1 hN1 (by omega) (by simp only[List.length_cons,List.length_append,IV];omega)) H.f3 ?_;rintro _ w _ (⟨hnone1,v4,v5,s1,rfl,rfl⟩|⟨t1,c1,v4,v5,O1,rfl,rfl⟩) H'
 ·have H:=H'.l8;have sv4:=H.says 0 rfl (fun h q=>q.slc)
  have sv5:=H.says 1 rfl (fun h q=>q.slc)
  refine Za 4 [] H rfl ?_;intro b6 w H;refine Zc 1 rfl (AC rfl rfl (Ai 0 H rfl rfl rfl rfl (vs:=[.bool (decide (h=0)),v4,v5]) rfl (Ac rfl (Ac sv4.one (Ac sv5.one Aw))) (by kernel_rfl) (by simp) (out:=[.bool (decide (h=0)),v4,v5]) rfl) ?_);rintro w H;replace H:=H.l9;refine Z4 20 [3,6,3,5] H rfl ?_;intro w H;refine Zl [5,3] H rfl ?_;replace H:=(H.mono 7 (B:=grow 3 1 (.slice (some ⟨gk,0,none⟩) ((kL (X++e1::e2::Y)).length) capk) ((kL (X++e1::e2::Y)).length) ((kL (X++e1::e2::Y)).map Iv_)) rfl (fun h q=>by exact q.grow (by omega) (by omega) (by have a:=ck3;have b:=ck1;simp only[List.length_append,List.length_map,List.length_cons] at a b ⊢;omega) (by rw[Nat.mul_one,List.take_left' (by simp)]))).l9
  replace H:=(H.mono 8 (B:=grow 3 1 (.slice (some ⟨gv,0,none⟩) ((vL (X++e1::e2::Y)).length) capv) ((vL (X++e1::e2::Y)).length) ((vL (X++e1::e2::Y)).map Iv_)) rfl (fun h q=>by exact q.grow (by omega) (by omega) (by have a:=cv3;have b:=cv1;simp only[List.length_append,List.length_map,List.length_cons] at a b ⊢;omega) (by rw[Nat.mul_one,List.take_left' (by simp)]))).l9
  exact ⟨_,.inl ⟨(by omega),_,_,_,_,rfl,rfl⟩,H.perm 9 [7,8,3] rfl rfl⟩
 ·have H:=H'.l8;have sv4:=H.says 0 rfl (fun h q=>q.slc)
  have sv5:=H.says 1 rfl (fun h q=>q.slc)
  refine Za 4 [] H rfl ?_;intro b7 w H;refine Zc 1 rfl (AC rfl rfl (Ai 0 H rfl rfl rfl rfl (vs:=[.bool (decide (h=0)),v4,v5]) rfl (Ac rfl (Ac sv4.one (Ac sv5.one Aw))) (by kernel_rfl) (by simp) (out:=[.bool (decide (h=0)),v4,v5]) rfl) ?_);rintro w H;replace H:=H.l9;refine Z0 13 [4] rfl ?_;obtain ⟨es2,hN2,hm2,hr2,ho2,hB2⟩:=Tr.iff.1 (O1.st.fr e2.2 (by simp) _ _ _ _ _ hP.tb);have hes28:es2.length≤8:=ho2.len
  replace H:=(H.mono 3 (B:=trA Tb pp mb n o (some (t1,e2.2::(c1::(vals es1++(vals X++(vals Y++Q))))))) rfl (fun h q=>q.perm (ZM c1 e2.2 (vals es1) (vals X) (vals Y++Q)))).l9
  replace H:=H.f6;refine AK (Sep z (blk b1 [.bool false,.slice (some ⟨gk,0,none⟩) ((kL (X++e1::e2::Y)).length) capk,.slice (some ⟨gv,0,none⟩) ((vL (X++e1::e2::Y)).length) capv] 92::blk b7 [.bool (decide (h=0)),v4,v5] 92::R)) 12 rfl (by kernel_rfl) (Bc H fun w H'=> ?_)
  have H:=H'.l9;refine Iq [0,1,2,3,4,5,6,7] [2,0,0,1,3] [(X.length:Int)] (by exact (H.pick 9 [0,1] rfl)) rfl (by kernel_rfl) (by omega) rfl (BC 8 rfl (by kernel_rfl) (by kernel_rfl) (by kernel_rfl) rfl rfl rfl (B4 rfl (z:=1) (j:=X.length) (r:=X.length) (by kernel_rfl) rfl rfl rfl (by simp only[List.length_map,List.length_append,List.length_cons];omega) (by omega)) (H.pick 9 [0,1] rfl) (AE [9] (by kernel_rfl) (by simp) (AB (Bj rfl rfl rfl (Ai 8 H rfl rfl rfl rfl (vs:=[Iv_ (c1:Int)]) rfl (Ac rfl Aw) (by kernel_rfl) (by simp only[List.length_append,List.length_map,List.length_cons,List.length_nil];omega) (out:=((vL (X++(e1.1,c1)::e2::Y)).map Iv_++rest_gv)) ((Dj (by simp)).trans (by rw[show (vL (X++e1::e2::Y)).set (X.length) (c1:Int)=(vL (X++(e1.1,c1)::e2::Y)) from by simp[vL,List.set_append]]))) ?_))));rintro w H;replace H:=H.l9;refine Ax (H.pick 9 [0,1] rfl) (Iq [10] [2,3,0,0] [] (by exact (H.pick 9 [0,1] rfl)) rfl (by kernel_rfl) (by omega) rfl (AE [11] (by kernel_rfl) (by simp) (AB (Bj rfl rfl rfl (Ai 5 H rfl rfl rfl rfl (vs:=[.bool (decide (h=0)),v4,v5]) rfl (Ac rfl (Ac sv4.one (Ac sv5.one Aw))) (by kernel_rfl) (by simp) (out:=[.bool (decide (h=0)),v4,v5,.bool false,.slice none 0 0,.slice none 0 0]) rfl) ?_))));rintro w H;replace H:=H.l9;refine Ax (H.pick 9 [0,1] rfl) (a_done (by kernel_rfl) (gn (Z1 6 [] [1] rfl (by omega) (gf (C5 (Z3 25 [3,2,0,0] [(X.length:Int)+1] H rfl (by omega) (Ab rfl (B4 rfl (z:=1) (j:=(X.length+1)) (r:=(X.length+1)) (by kernel_rfl) rfl rfl (by omega) (by simp only[List.length_map,List.length_append,List.length_cons];omega) (by omega)) (Ab rfl (AT rfl rfl (by kernel_rfl) (Av (H.cel 8 rfl (X.length+1) (show ((vL (X++(e1.1,c1)::e2::Y)).map Iv_++rest_gv)[X.length+1]? =some (Iv_ (e2.2:Int)) from (by rw[List.getElem?_append_left (by simp),List.getElem?_map];simp[vL]))))) ?_))))))))
  refine Ar rfl (call96 _) (Ie pp mb n o t1 (c1::(vals es1++(vals X++(vals Y++Q)))) e2.2 (decide (h=0)) es2 hN2 (by have:=O1.st.k;omega) (by simp only[List.length_cons,List.length_append,IV];omega)) H.f4 ?_;rintro _ w _ (⟨hnone2,v8,v9,s2,rfl,rfl⟩|⟨t2,c2,v8,v9,O2,rfl,rfl⟩) H'
  ·have H:=H'.l11;have sv8:=H.says 0 rfl (fun h q=>q.slc)
   have sv9:=H.says 1 rfl (fun h q=>q.slc)
   refine Za 4 [] H rfl ?_;intro b10 w H;refine Zc 1 rfl (AC rfl rfl (Ai 0 H rfl rfl rfl rfl (vs:=[.bool (decide (h=0)),v8,v9]) rfl (Ac rfl (Ac sv8.one (Ac sv9.one Aw))) (by kernel_rfl) (by simp) (out:=[.bool (decide (h=0)),v8,v9]) rfl) ?_);rintro w H;replace H:=H.l12;refine Z4 20 [3,4,3,9] H rfl ?_;intro w H;refine Zl [9,3] H rfl ?_;replace H:=(H.mono 10 (B:=grow 3 1 (.slice (some ⟨gk,0,none⟩) ((kL (X++e1::e2::Y)).length) capk) ((kL (X++(e1.1,c1)::e2::Y)).length) ((kL (X++(e1.1,c1)::e2::Y)).map Iv_)) rfl (fun h q=>by rw[show (kL (X++(e1.1,c1)::e2::Y)).length=(kL (X++e1::e2::Y)).length from by simp,show kL (X++(e1.1,c1)::e2::Y)=kL (X++e1::e2::Y) from by simp[kL]];exact q.grow (by omega) (by omega) (by have a:=ck3;have b:=ck1;simp only[List.length_append,List.length_map,List.length_cons] at a b ⊢;omega) (by rw[Nat.mul_one,List.take_left' (by simp)]))).l12
   replace H:=(H.mono 11 (B:=grow 3 1 (.slice (some ⟨gv,0,none⟩) ((vL (X++e1::e2::Y)).length) capv) ((vL (X++(e1.1,c1)::e2::Y)).length) ((vL (X++(e1.1,c1)::e2::Y)).map Iv_)) rfl (fun h q=>by rw[show (vL (X++(e1.1,c1)::e2::Y)).length=(vL (X++e1::e2::Y)).length from by simp];exact q.grow (by omega) (by omega) (by have a:=cv3;have b:=cv1;simp only[List.length_append,List.length_map,List.length_cons] at a b ⊢;omega) (by rw[Nat.mul_one,List.take_left' (by simp)]))).l12
   exact ⟨_,.inl ⟨(by have:=O1.st.f;omega),_,_,_,_,rfl,rfl⟩,H.perm 12 [10,11,3] rfl rfl⟩
  ·have H:=H'.l11;have sv8:=H.says 0 rfl (fun h q=>q.slc)
   have sv9:=H.says 1 rfl (fun h q=>q.slc)
   refine Za 4 [] H rfl ?_;intro b11 w H;refine Zc 1 rfl (AC rfl rfl (Ai 0 H rfl rfl rfl rfl (vs:=[.bool (decide (h=0)),v8,v9]) rfl (Ac rfl (Ac sv8.one (Ac sv9.one Aw))) (by kernel_rfl) (by simp) (out:=[.bool (decide (h=0)),v8,v9]) rfl) ?_);rintro w H;replace H:=H.l12;refine Z0 13 [4] rfl ?_;replace H:=H.f4;refine AK (Sep z (blk b1 [.bool false,.slice (some ⟨gk,0,none⟩) ((kL (X++e1::e2::Y)).length) capk,.slice (some ⟨gv,0,none⟩) ((vL (X++e1::e2::Y)).length) capv] 92::blk b11 [.bool (decide (h=0)),v8,v9] 92::R)) 12 rfl (by kernel_rfl) (Bc H fun w H'=> ?_)
   have H:=H'.l12;refine Iq [0,1,2,3,4,5,6,7] [2,0,0,1,3] [(X.length:Int)+1] (by exact (H.pick 12 [0,1] rfl)) rfl (by kernel_rfl) (by omega) rfl (BC 8 rfl (by kernel_rfl) (by kernel_rfl) (by kernel_rfl) rfl rfl rfl (B4 rfl (z:=1) (j:=(X.length+1)) (r:=(X.length+1)) (by kernel_rfl) rfl rfl (by omega) (by simp only[List.length_map,List.length_append,List.length_cons];omega) (by omega)) (H.pick 12 [0,1] rfl) (AE [9] (by kernel_rfl) (by simp) (AB (Bj rfl rfl rfl (Ai 11 H rfl rfl rfl rfl (vs:=[Iv_ (c2:Int)]) rfl (Ac rfl Aw) (by kernel_rfl) (by simp only[List.length_append,List.length_map,List.length_cons,List.length_nil];omega) (out:=((vL (X++(e1.1,c1)::(e2.1,c2)::Y)).map Iv_++rest_gv)) ((Dj (by simp)).trans (by rw[show (vL (X++(e1.1,c1)::e2::Y)).set (X.length+1) (c2:Int)=(vL (X++(e1.1,c1)::(e2.1,c2)::Y)) from by simp[vL,List.set_append]]))) ?_))));rintro w H;replace H:=H.l12;refine Ax (H.pick 12 [0,1] rfl) (Iq [10] [2,3,1,3] [] (by exact (H.pick 12 [0,1] rfl)) rfl (by kernel_rfl) (by omega) rfl (AE [11] (by kernel_rfl) (by simp) (AB (Bj rfl rfl rfl (Ai 8 H rfl rfl rfl rfl (vs:=[.bool (decide (h=0)),v8,v9]) rfl (Ac rfl (Ac sv8.one (Ac sv9.one Aw))) (by kernel_rfl) (by simp) (out:=[.bool (decide (h=0)),v4,v5,.bool (decide (h=0)),v8,v9]) rfl) ?_))));rintro w H;replace H:=H.l12;refine Ax (H.pick 12 [0,1] rfl) (a_done (by kernel_rfl) (gn (Z1 6 [] [2] rfl (by omega) (gf (C5 (Z0 9 [4] rfl (gx (Zc 3 rfl ?_))))))))
   have K2:=H.says 4 rfl (fun h a=>trA.k a)
   have hB1b:Bd t2.N h es1 e2.1 La:=O2.st.bd (fun v hv=>by simp[hv]) (O1.bd hB1)
   have hB2b:Bd t2.N h es2 (nx Y hi) Lb:=O2.bd hB2
   have hne2:es2≠[]:=fun q=>by rw[q] at hm2;simp at hm2;omega
   obtain ⟨hBB,hsB,hrB⟩:=Wa hB1b hB2b ho1.srt ho2.srt hr1 hr2 hne2 hE1 hE2;have hdB:(vals (es1++es2)).Nodup:=hBB.nd hsB (fun x hx=>(hrB x hx).2) hP.d
   have hc1o:=O2.st.op c1 (by simp) O1.N0 O1.C1
   have hq0:Sq (fun c a b L=>Tr t2.N h c a b 4 L) X e1.1 L0:=Sq.imp hP.q0 fun x hx _ _ q=>O2.st.fr _ (by simp[List.mem_map_of_mem hx,vals]) _ _ _ _ _ (O1.st.fr _ (by simp[List.mem_map_of_mem hx,vals]) _ _ _ _ _ q)
   have hq2:Sq (fun c a b L=>Tr t2.N h c a b 4 L) Y hi L2:=Sq.imp hP.q2 fun x hx _ _ q=>O2.st.fr _ (by simp[List.mem_map_of_mem hx,vals]) _ _ _ _ _ (O1.st.fr _ (by simp[List.mem_map_of_mem hx,vals]) _ _ _ _ _ q)
   have hv1:∀ v∈vals es1,1≤v∧v<1024:=fun v hv=>by have:=K2.i.rin v (by simp[Ci,hv]);omega
   have hv2:∀ v∈vals es2,1≤v∧v<1024:=fun v hv=>by have:=K2.i.rin v (by simp[Ci,hv]);omega
   have hck1:=CkN.of ho1 hv1
   have hck2:=CkN.of ho2 hv2
   have hkB:=Ig hrB (by have:=hP.l0;omega) (by have:=hP.h1;omega)
   refine Z3 5 [2,3,0,0,8,3,2,3,1,3,8,3] [] H rfl (by omega) ?_;rcases Nat.lt_or_ge 8 (es1.length+es2.length) with hj|hj
   ·refine z_E_ rfl (call135 _) (joinF_e (fun h q=>q.rd) (fun h q=>q.rd) (fun h q=>q.rd) (fun h q=>q.rd) hck1 hck2 hsB hj) H.f3.f3.f7.f7 ?_;intro w H;refine Za 3 [] H rfl ?_;intro b14 w H;refine Z5 20 [0,4,2,3,0,0,9,3,2,3,1,3,9,3] [] H rfl (by omega) ?_;intro w H;have hfl:5≤EO es1 es2∧EO es1 es2≤8∧4≤(es1++es2).length - EO es1 es2∧(es1++es2).length - EO es1 es2≤8:=by unfold EO;simp only[List.length_append];omega
    have hsp:=List.take_append_drop (EO es1 es2) (es1++es2)
    obtain ⟨x_,hx_⟩:∃ x_,x_=(es1++es2).take (EO es1 es2):=⟨_,rfl⟩;obtain ⟨y_,hy_⟩:∃ y_,y_=(es1++es2).drop (EO es1 es2):=⟨_,rfl⟩;refine Ar rfl (call136 _) (Wb (fun h q=>q.rd) (fun h q=>q.rd) (fun h q=>q.rd) (fun h q=>q.rd) hck1 hck2 hsB hj x_ y_ hx_ hy_) H.f4.f4.f4.f4 ?_;rintro _ w _ ⟨v15,v16,v17,v18,rfl,rfl⟩ H;replace H:=H.l17;have sv15:=H.says 0 rfl (fun h q=>q.slc)
    have sv16:=H.says 1 rfl (fun h q=>q.slc)
    have sv17:=H.says 2 rfl (fun h q=>q.slc)
    have sv18:=H.says 3 rfl (fun h q=>q.slc)
    have hxl:4≤x_.length∧x_.length≤8:=by rw[hx_,List.length_take];simp only[List.length_append] at hfl ⊢;omega
    have hyl:4≤y_.length∧y_.length≤8:=by rw[hy_,List.length_drop];exact hfl.2.2
    rw[←hx_,←hy_] at hsp;rw[←hsp] at hBB hsB hrB hdB hkB;have hxne:x_≠[]:=fun q=>by rw[q] at hxl;simp at hxl
    have hyne:y_≠[]:=fun q=>by rw[q] at hyl;simp at hyl
    obtain ⟨M1,M2,hM,hBx,hBy⟩:=Bd.app.1 hBB;obtain ⟨hrx,hry,hky1,hky2⟩:=MJ hsB hrB hxne hyne;obtain ⟨hsx,hsy,_⟩:=Srt.app.1 hsB;rw[Bg,List.nodup_append] at hdB;obtain ⟨ky,hky⟩:∃ ky,ky=nx y_ (nx Y hi):=⟨_,rfl⟩;rw[←hky] at hBx hrx hry hky1 hky2;have hox:(Nd.mk (decide (h=0)) x_).Ok:=⟨hsx,hxl.2,fun e he=>hkB e (by simp[he]),fun _=>hxne⟩
    have hoy:(Nd.mk (decide (h=0)) y_).Ok:=⟨hsy,hyl.2,fun e he=>hkB e (by simp[he]),fun _=>hyne⟩
    have hpm:(c2::(vals es2++(c1::(vals es1++(vals X++(vals Y++Q)))))).Perm (c1::(vals x_++(c2::(vals y_++(vals X++(vals Y++Q)))))):=ZN c1 c2 es1 es2 x_ y_ _ hsp.symm
    refine Za 4 [] H rfl ?_;intro b19 w H;refine Za 0 [] H rfl ?_;intro b20 w H;refine AC rfl rfl (Ai 1 H rfl rfl rfl rfl (vs:=[.bool (decide (h=0)),v15,v16]) rfl (Ac rfl (Ac sv15.one (Ac sv16.one Aw))) (by kernel_rfl) (by simp) (out:=[.bool (decide (h=0)),v15,v16]) rfl) ?_;rintro w H;replace H:=H.l19;refine AC rfl rfl (Ai 0 H rfl rfl rfl rfl (vs:=[.bool (decide (h=0)),v17,v18]) rfl (Ac rfl (Ac sv17.one (Ac sv18.one Aw))) (by kernel_rfl) (by simp) (out:=[.bool (decide (h=0)),v17,v18]) rfl) ?_;rintro w H;replace H:=H.l19;refine Z0 15 [4] rfl ?_;replace H:=(H.mono 13 (B:=trA Tb pp mb n o (some (t2,c1::(vals x_++(c2::(vals y_++(vals X++(vals Y++Q)))))))) rfl (fun h q=>q.perm hpm)).l19
    replace H:=(H.pick 19 [11,1,18,0,2,3,4,5,6,7,8,9,10,12,13,14,15,16,17] rfl).l19
    refine AK (Sep z (blk b1 [.bool false,.slice (some ⟨gk,0,none⟩) ((kL (X++e1::e2::Y)).length) capk,.slice (some ⟨gv,0,none⟩) ((vL (X++e1::e2::Y)).length) capv] 92::blk b19 [.bool (decide (h=0)),v15,v16] 92::blk gv ((vL (X++(e1.1,c1)::(e2.1,c2)::Y)).map Iv_++rest_gv) 3::R)) 9 rfl (by kernel_rfl) (Bc H fun w H'=> ?_)
    have H:=H'.l19;refine AZ [0,1,2,3] [2,0,0] [] (by exact (H.pick 19 [0,1,2] rfl)) rfl (by kernel_rfl) rfl (BC 4 rfl (by kernel_rfl) (by kernel_rfl) (by kernel_rfl) rfl rfl rfl (B4 rfl (z:=1) (j:=X.length) (r:=X.length) (by kernel_rfl) rfl rfl rfl (by simp only[List.length_map,List.length_append,List.length_cons];omega) (by omega)) (H.pick 19 [0,1,2] rfl) (BC 5 rfl (by kernel_rfl) (by kernel_rfl) (by kernel_rfl) rfl rfl rfl (AT rfl rfl (by kernel_rfl) (fun _ hx=>hx.cel 2 rfl X.length (show ((vL (X++(e1.1,c1)::(e2.1,c2)::Y)).map Iv_++rest_gv)[X.length]? =some (Iv_ (c1:Int)) from (by rw[List.getElem?_append_left (by simp),List.getElem?_map];simp[vL])))) (H.pick 19 [0,1,2] rfl) ?_));refine AZ [6] [1,3] [] (by exact (H.pick 19 [0,1,2] rfl)) rfl (by kernel_rfl) rfl (AE [7] (by kernel_rfl) (by simp) (AB (Nt rfl rfl rfl rfl rfl rfl (fun w=>call98 _ w) (E3 pp mb n o t2 (c2::(vals y_++(vals X++(vals Y++Q)))) c1 (decide (h=0)) _ _ x_ _ _ (fun h q=>q.rd) (fun h q=>q.rd) h e1.1 ky 4 M1 hBx rfl hrx hxl.1 hox hdB.1 hc1o.2 hc1o.1 (by have:=O1.st.k;have:=O2.st.k;omega)) H 15 [14,4,5,0,1,2,3,6,7,8,9,10,11,12,13] rfl rfl ?_)));rintro _ w _ ⟨t3,⟨hSt3,hT3,hC3,hN3⟩,rfl,rfl⟩ H;replace H:=H.l19;refine Ax (H.pick 19 [3,4,5] rfl) (AZ [8] [] [] (by exact (H.pick 19 [3,4,5] rfl)) rfl (by kernel_rfl) rfl (a_done (by kernel_rfl) (gn (Z0 11 [4] rfl ?_))));obtain ⟨aoy,cc21,rfl⟩:=sv17;have haty:=(H.rd 7 rfl (fun h q=>q.rd)).at (j:=0) (u:=Iv_ ky) (by rw[List.getElem?_map,EI (hi:=nx Y hi) hyl.1,hky];rfl)
    replace H:=(H.pick 19 [3,6,7,0,1,2,4,5,8,9,10,11,12,13,14,15,16,17,18] rfl).l19
    refine AK (Sep z (blk b1 [.bool false,.slice (some ⟨gk,0,none⟩) ((kL (X++e1::e2::Y)).length) capk,.slice (some ⟨gv,0,none⟩) ((vL (X++e1::e2::Y)).length) capv] 92::blk b20 [.bool (decide (h=0)),.slice aoy ((kL y_).length) cc21,v18] 92::grow 3 1 (.slice aoy ((kL y_).length) cc21) ((kL y_).length) ((kL y_).map Iv_)::R)) 10 rfl (by kernel_rfl) (Bc H fun w H'=> ?_)
    have H:=H'.l19;refine Iq [0,1,2,3,4,5] [1,0,0,1,1,0] [(X.length:Int)+1] (by exact (H.pick 19 [0,1,2] rfl)) rfl (by kernel_rfl) (by omega) rfl (BC 6 rfl (by kernel_rfl) (by kernel_rfl) (by kernel_rfl) rfl rfl rfl (Ao rfl (z:=1) (j:=0) (r:=0) (by kernel_rfl) rfl rfl rfl (by simp only[List.length_map];omega) haty (by omega)) (H.pick 19 [0,1,2] rfl) (BC 7 rfl (by kernel_rfl) (by kernel_rfl) (by kernel_rfl) rfl rfl rfl (Az rfl rfl (by kernel_rfl) (fun _ hx'=>(hx'.rd 2 rfl (fun h q=>q.rd)).at (j:=0) (u:=Iv_ ky) (by rw[List.getElem?_map,EI (hi:=nx Y hi) hyl.1,hky];rfl))) (H.pick 19 [0,1,2] rfl) ?_));refine BC 8 rfl (by kernel_rfl) (by kernel_rfl) (by kernel_rfl) rfl rfl rfl (B4 rfl (z:=1) (j:=(X.length+1)) (r:=(X.length+1)) (by kernel_rfl) rfl rfl (by omega) (by simp only[List.length_map,List.length_append,List.length_cons];omega) (by omega)) (H.pick 19 [0,1,2] rfl) (AE [9] (by kernel_rfl) (by simp) (AB (Bj rfl rfl rfl (Ai 18 H rfl rfl rfl rfl (vs:=[Iv_ ky]) rfl (Ac rfl Aw) (by kernel_rfl) (by simp only[List.length_append,List.length_map,List.length_cons,List.length_nil];omega) (out:=((kL (X++(e1.1,c1)::(ky,c2)::Y)).map Iv_++rest_gk)) ((Dj (by simp)).trans (by rw[show (kL (X++e1::e2::Y)).set (X.length+1) ky=(kL (X++(e1.1,c1)::(ky,c2)::Y)) from by simp[kL,List.set_append]]))) ?_)));rintro w H;replace H:=H.l19;refine Ax (H.pick 19 [0,1,2] rfl) (a_done (by kernel_rfl) (gn (Zc 2 rfl ?_)))
    replace H:=(H.mono 3 (B:=trA Tb pp mb n o (some (t3,c2::(vals y_++(c1::(vals X++(vals Y++Q))))))) rfl (fun h q=>q.perm (ZO c1 c2 _ _))).l19
    replace H:=(H.pick 19 [0,1,7,2,3,4,5,6,8,9,10,11,12,13,14,15,16,17,18] rfl).l19
    refine AK (Sep z (blk b1 [.bool false,.slice (some ⟨gk,0,none⟩) ((kL (X++e1::e2::Y)).length) capk,.slice (some ⟨gv,0,none⟩) ((vL (X++e1::e2::Y)).length) capv] 92::blk b20 [.bool (decide (h=0)),.slice aoy ((kL y_).length) cc21,v18] 92::blk gv ((vL (X++(e1.1,c1)::(e2.1,c2)::Y)).map Iv_++rest_gv) 3::R)) 12 rfl (by kernel_rfl) (Bc H fun w H'=> ?_)
    have H:=H'.l19;refine Iq [0,1,2,3,4,5] [0,3,2,0,0] [(X.length:Int)+1] (by exact (H.pick 19 [0,1,2] rfl)) rfl (by kernel_rfl) (by omega) rfl (BC 6 rfl (by kernel_rfl) (by kernel_rfl) (by kernel_rfl) rfl rfl rfl (B4 rfl (z:=1) (j:=(X.length+1)) (r:=(X.length+1)) (by kernel_rfl) rfl rfl (by omega) (by simp only[List.length_map,List.length_append,List.length_cons];omega) (by omega)) (H.pick 19 [0,1,2] rfl) (BC 7 rfl (by kernel_rfl) (by kernel_rfl) (by kernel_rfl) rfl rfl rfl (AT rfl rfl (by kernel_rfl) (fun _ hx=>hx.cel 2 rfl (X.length+1) (show ((vL (X++(e1.1,c1)::(e2.1,c2)::Y)).map Iv_++rest_gv)[X.length+1]? =some (Iv_ (c2:Int)) from (by rw[List.getElem?_append_left (by simp),List.getElem?_map];simp[vL])))) (H.pick 19 [0,1,2] rfl) ?_));refine AZ [8] [1,3] [] (by exact (H.pick 19 [0,1,2] rfl)) rfl (by kernel_rfl) rfl (AE [9] (by kernel_rfl) (by simp) (AB (Nt rfl rfl rfl rfl rfl rfl (fun w=>call98 _ w) (E3 pp mb n o t3 (c1::(vals X++(vals Y++Q))) c2 (decide (h=0)) _ _ y_ _ _ (fun h q=>q.rd) (fun h q=>q.rd) h ky (nx Y hi) 4 M2 (hSt3.bd (fun v hv=>by simp[hv]) hBy) rfl hry hyl.1 hoy hdB.2.1 (hSt3.op c2 (by simp) O2.N0 O2.C1).2 (hSt3.op c2 (by simp) O2.N0 O2.C1).1 (by have:=O1.st.k;have:=O2.st.k;have:=hSt3.k;omega)) H 9 [4,3,8,0,1,2,5,6,7] rfl rfl ?_)));rintro _ w _ ⟨t4,⟨hSt4,hT4,hC4,hN4⟩,rfl,rfl⟩ H;replace H:=H.l19;refine Ax (H.pick 19 [3,4,5] rfl) (AE [10] (by kernel_rfl) (by simp) (AB (Bj rfl rfl rfl (Ai 17 H rfl rfl rfl rfl (vs:=[.bool false,.slice (some ⟨gk,0,none⟩) ((kL (X++e1::e2::Y)).length) capk,.slice (some ⟨gv,0,none⟩) ((vL (X++e1::e2::Y)).length) capv]) rfl (by simp[u8,u32,Value.oneCell']) (by kernel_rfl) (by simp) (out:=[.bool false,.slice (some ⟨gk,0,none⟩) ((kL (X++e1::e2::Y)).length) capk,.slice (some ⟨gv,0,none⟩) ((vL (X++e1::e2::Y)).length) capv]) rfl) ?_)))
    rintro w H;replace H:=H.l19;refine Ax (H.pick 19 [3,4,5] rfl) (AZ [11] [] [] (by exact (H.pick 19 [3,4,5] rfl)) rfl (by kernel_rfl) rfl (a_done (by kernel_rfl) (gn (Zc 2 rfl (Zl [17,3] H rfl ?_)))));replace H:=(H.mono 18 (B:=grow 3 1 (.slice (some ⟨gk,0,none⟩) ((kL (X++e1::e2::Y)).length) capk) ((kL (X++(e1.1,c1)::(ky,c2)::Y)).length) ((kL (X++(e1.1,c1)::(ky,c2)::Y)).map Iv_)) rfl (fun h q=>by rw[show (kL (X++(e1.1,c1)::(ky,c2)::Y)).length=(kL (X++e1::e2::Y)).length from by simp];exact q.grow (by omega) (by omega) (by have a:=ck3;have b:=ck1;simp only[List.length_append,List.length_map,List.length_cons] at a b ⊢;omega) (by rw[Nat.mul_one,List.take_left' (by simp)]))).l19
    replace H:=(H.mono 5 (B:=grow 3 1 (.slice (some ⟨gv,0,none⟩) ((vL (X++e1::e2::Y)).length) capv) ((vL (X++(e1.1,c1)::(ky,c2)::Y)).length) ((vL (X++(e1.1,c1)::(ky,c2)::Y)).map Iv_)) rfl (fun h q=>by rw[show (vL (X++(e1.1,c1)::(ky,c2)::Y)).length=(vL (X++e1::e2::Y)).length from by simp,show vL (X++(e1.1,c1)::(ky,c2)::Y)=vL (X++(e1.1,c1)::(e2.1,c2)::Y) from by simp[vL]];exact q.grow (by omega) (by omega) (by have a:=cv3;have b:=cv1;simp only[List.length_append,List.length_map,List.length_cons] at a b ⊢;omega) (by rw[Nat.mul_one,List.take_left' (by simp)]))).l19
    replace H:=(H.mono 0 (B:=trA Tb pp mb n o (some (t4,vals (X++(e1.1,c1)::(ky,c2)::Y)++Q))) rfl (fun h q=>q.perm (ZQ c1 c2 e1.1 ky X Y Q))).l19
    have hj4:=mn_share (c1:=c1) (c2:=c2) hP.ok hP.r (Sq.st hSt4 (fun v hv=>by simp[hv]) (Sq.st hSt3 (fun v hv=>by simp[hv]) hq0)) (Sq.st hSt4 (fun v hv=>by simp[hv]) (Sq.st hSt3 (fun v hv=>by simp[hv]) hq2)) (hSt4.fr c1 (by simp) _ _ _ _ _ hT3) hT4 hM.symm hky1 hky2 hP.h1
    exact ⟨_,.inr ⟨t4,_,_,_,⟨St.t4 O1.st O2.st hSt3 hSt4 (by omega) (fun p hp=>by simp[hp]) (fun p hp=>by simp[hp]) (fun p hp=>by simp[hp]) (fun p hp=>by simp[hp]),hj4.1,hj4.2.1,hj4.2.2.1,hj4.2.2.2,by simp⟩,rfl,rfl⟩,H.perm 19 [18,5,0] rfl rfl⟩
   ·refine Ar rfl (call135 _) (XY (fun h q=>q.rd) (fun h q=>q.rd) (fun h q=>q.rd) (fun h q=>q.rd) hck1 hck2 hsB hj) H.f3.f3.f7.f7 ?_;rintro _ w _ ⟨v12,v13,rfl,rfl⟩ H;replace H:=H.l14;have sv12:=H.says 0 rfl (fun h q=>q.slc)
    have sv13:=H.says 1 rfl (fun h q=>q.slc)
    refine Za 3 [] H rfl ?_;intro b22 w H;refine AC rfl rfl (Ai 0 H rfl rfl rfl rfl (vs:=[.bool (decide (h=0)),v12,v13]) rfl (Ac rfl (Ac sv12.one (Ac sv13.one Aw))) (by kernel_rfl) (by simp) (out:=[.bool (decide (h=0)),v12,v13]) rfl) ?_;rintro w H;replace H:=H.l15;refine Z0 13 [3] rfl ?_;have hoB:(Nd.mk (decide (h=0)) (es1++es2)).Ok:=⟨hsB,by simp;omega,hkB,fun _=>by simp[hne2]⟩
    replace H:=(H.mono 9 (B:=trA Tb pp mb n o (some (t2,c1::(vals (es1++es2)++(c2::(vals X++(vals Y++Q))))))) rfl (fun h q=>q.perm (ZA c1 c2 es1 es2 _))).l15
    replace H:=H.f14.f1.f8;refine AK (Sep z (blk b1 [.bool false,.slice (some ⟨gk,0,none⟩) ((kL (X++e1::e2::Y)).length) capk,.slice (some ⟨gv,0,none⟩) ((vL (X++e1::e2::Y)).length) capv] 92::blk b22 [.bool (decide (h=0)),v12,v13] 92::blk gv ((vL (X++(e1.1,c1)::(e2.1,c2)::Y)).map Iv_++rest_gv) 3::R)) 9 rfl (by kernel_rfl) (Bc H fun w H'=> ?_)
    have H:=H'.l15;refine AZ [0,1,2,3] [2,0,0] [] (by exact (H.pick 15 [0,1,2] rfl)) rfl (by kernel_rfl) rfl (BC 4 rfl (by kernel_rfl) (by kernel_rfl) (by kernel_rfl) rfl rfl rfl (B4 rfl (z:=1) (j:=X.length) (r:=X.length) (by kernel_rfl) rfl rfl rfl (by simp only[List.length_map,List.length_append,List.length_cons];omega) (by omega)) (H.pick 15 [0,1,2] rfl) (BC 5 rfl (by kernel_rfl) (by kernel_rfl) (by kernel_rfl) rfl rfl rfl (AT rfl rfl (by kernel_rfl) (fun _ hx=>hx.cel 2 rfl X.length (show ((vL (X++(e1.1,c1)::(e2.1,c2)::Y)).map Iv_++rest_gv)[X.length]? =some (Iv_ (c1:Int)) from (by rw[List.getElem?_append_left (by simp),List.getElem?_map];simp[vL])))) (H.pick 15 [0,1,2] rfl) ?_));refine AZ [6] [1,3] [] (by exact (H.pick 15 [0,1,2] rfl)) rfl (by kernel_rfl) rfl (AE [7] (by kernel_rfl) (by simp) (AB (B0 rfl rfl rfl rfl rfl rfl (fun w=>call98 _ w) (E3 pp mb n o t2 (c2::(vals X++(vals Y++Q))) c1 (decide (h=0)) _ _ (es1++es2) _ _ (fun h q=>q.rd) (fun h q=>q.rd) h e1.1 (nx Y hi) 4 (La++Lb) hBB rfl hrB (by simp;omega) hoB hdB hc1o.2 hc1o.1 (by have:=O1.st.k;have:=O2.st.k;omega)) H.f4.f4.f10 rfl ?_)));rintro _ w _ ⟨t3,⟨hSt3,hT3,hC3,hN3⟩,rfl,rfl⟩ H;replace H:=H.l15;refine Ax (H.pick 15 [3,4,5] rfl) (AZ [8] [] [] (by exact (H.pick 15 [3,4,5] rfl)) rfl (by kernel_rfl) rfl (a_done (by kernel_rfl) (gn (Z0 12 [4] rfl ?_))));replace H:=(H.mono 0 (B:=trA Tb pp mb n o (some (t3,c2::(c1::(vals X++(vals Y++Q)))))) rfl (fun h q=>q.perm (List.Perm.swap _ _ _))).l15
    refine Z3 6 [2,3,0] [(X.length:Int)+1] H rfl (by omega) (Ab rfl (B4 rfl (z:=1) (j:=(X.length+1)) (r:=(X.length+1)) (by kernel_rfl) rfl rfl (by omega) (by simp only[List.length_map,List.length_append,List.length_cons];omega) (by omega)) (Ab rfl (AT rfl rfl (by kernel_rfl) (Av (H.cel 5 rfl (X.length+1) (show ((vL (X++(e1.1,c1)::(e2.1,c2)::Y)).map Iv_++rest_gv)[X.length+1]? =some (Iv_ (c2:Int)) from (by rw[List.getElem?_append_left (by simp),List.getElem?_map];simp[vL]))))) ?_));refine Ar rfl (call52 _) (FT pp mb n o t3 _ c2 (fun d q=>by rw[(hSt3.op c2 (by simp) O2.N0 O2.C1).1] at q;cases q)) H ?_;rintro _ w _ ⟨t4,⟨hS4,hq4,hC4,hN4,hF4⟩,rfl,rfl⟩ H;refine Z0 13 [4] rfl ?_;have K4:=H.says 0 rfl (fun h a=>trA.k a)
    have hvW:∀ v∈vals X++vals Y,1≤v∧v<1024:=fun v hv=>by have:=K4.i.rin v (by simp only[Ci,List.mem_cons,List.mem_append] at hv ⊢;rcases hv with h|h<;>simp[h]);omega
    have hvc1:1≤c1∧c1<1024:=by have:=K4.i.rin c1 (by simp[Ci]);omega
    have hvc2:1≤c2∧c2<1024:=by have:=K2.i.rin c2 (by simp[Ci]);omega
    have hjj:=Og (N:=t4.N) (c1:=c1) hP.ok hP.r (Sq.st hS4 (fun v hv=>by simp[hv]) (Sq.st hSt3 (fun v hv=>by simp[hv]) hq0)) (Sq.st hS4 (fun v hv=>by simp[hv]) (Sq.st hSt3 (fun v hv=>by simp[hv]) hq2)) (hS4.fr c1 (by simp) _ _ _ _ _ hT3)
    have hckB:CkN false (kL (X++(e1.1,c1)::Y)) (vL (X++(e1.1,c1)::Y)):=CkN.of hjj.2.2.1 (fun v hv=>by rw[Bg,BA] at hv;simp only[List.mem_append,List.mem_cons] at hv;rcases hv with q|q|q;exact hvW v (by simp[q]);rw[q];exact hvc1;exact hvW v (by simp[q]))
    have hckA:CkN false (kL (X++(e1.1,c1)::(e2.1,c2)::Y)) (vL (X++(e1.1,c1)::(e2.1,c2)::Y)):=CkN.of (X7 hP.ok) (fun v hv=>by rw[Bg,BA,BA] at hv;simp only[List.mem_append,List.mem_cons] at hv;rcases hv with q|q|q|q;exact hvW v (by simp[q]);rw[q];exact hvc1;rw[q];exact hvc2;exact hvW v (by simp[q]))
    refine Z3 4 [3,3] [((X.length+1:Nat):Int)] H rfl (by omega) (Ar rfl (call97 _) (Wc (fun h q=>by rw[show kL (X++(e1.1,c1)::(e2.1,c2)::Y)=kL (X++e1::e2::Y) from by simp[kL]];exact q.rd (by omega) (by omega) (by simp only[List.length_append,List.length_map,List.length_cons];omega) (by rw[List.drop_zero,Nat.mul_one,List.take_left' (by simp)])) (fun h q=>by rw[show (vL (X++(e1.1,c1)::(e2.1,c2)::Y)).length=(vL (X++e1::e2::Y)).length from by simp];exact q.rd (by omega) (by omega) (by simp only[List.length_append,List.length_map,List.length_cons];omega) (by rw[List.drop_zero,Nat.mul_one,List.take_left' (by simp)])) hckA hckB) H.f5.f14 ?_);rintro _ w _ ⟨v23,v24,rfl,rfl⟩ H;replace H:=H.l17;have sv23:=H.says 0 rfl (fun h q=>q.slc)
    have sv24:=H.says 1 rfl (fun h q=>q.slc)
    refine Zc 2 rfl (AC rfl rfl (Ai 16 H rfl rfl rfl rfl (vs:=[.bool false,v23,v24]) rfl (Ac rfl (Ac sv23.one (Ac sv24.one Aw))) (by kernel_rfl) (by simp) (out:=[.bool false,v23,v24]) rfl) ?_);rintro w H;replace H:=H.l17;refine Zc 4 rfl (Zl [16,3] H rfl ?_);replace H:=(H.mono 4 (B:=trA Tb pp mb n o (some (t4,vals (X++(e1.1,c1)::Y)++Q))) rfl (fun h q=>q.perm (ZP c1 e1.1 X Y Q))).l17
    have hj4:=Og (c1:=c1) hP.ok hP.r (Sq.st hS4 (fun v hv=>by simp[hv]) (Sq.st hSt3 (fun v hv=>by simp[hv]) hq0)) (Sq.st hS4 (fun v hv=>by simp[hv]) (Sq.st hSt3 (fun v hv=>by simp[hv]) hq2)) (hS4.fr c1 (by simp) _ _ _ _ _ hT3)
    exact ⟨_,.inr ⟨t4,_,_,_,⟨St.t4 O1.st O2.st hSt3 hS4 (by omega) (fun p hp=>by simp[hp]) (fun p hp=>by simp[hp]) (fun p hp=>by simp[hp]) (fun p hp=>by simp[hp]),hj4.1,hj4.2.1,hj4.2.2.1,hj4.2.2.2,by simp;omega⟩,rfl,rfl⟩,H.perm 17 [0,1,4] rfl rfl⟩
end
section
open Go.RowKit
variable {Tb:Ae}
structure RmPre (n:Nat) (t:TS) (Q:List Nat) (a h:Nat) (lo hi:Int) (m:Nat) (key:Int) (v0:Nat) (L:List E):Prop where
 T:Tr t.N h a lo hi m L
 kin:(key,v0)∈L
 l0:0≤lo
 h1:hi≤1048576
 d:(vals L).Nodup
 mm:1≤m∧(h≠0→2≤m)
 hk:t.k+6 * h+4<40
 hb:Q.length+10 * h+42+n≤980
abbrev Jz (Tb:Ae) (pp mb n:Nat) (o:TB) (t:TS) (Q:List Nat) (h:Nat) (lo hi:Int) (m:Nat) (key:Int) (L:List E) (v:Value) (Γ:List Ae):Prop:=
 (cnt t.F 0 1024≤3 * h∧∃ s:TS×List Nat,v= .tuple #[.int .i64 0,.int .i64 0,.int .i64 20]∧Γ=[trA Tb pp mb n o (some s)])∨
 ∃ (t2:TS) (c:Nat) (es':List E),(St t t2 Q (3 * h+1) (6 * h+2)∧Tr t2.N h c lo hi es'.length (delE key L)∧t2.N c=some (.nd ⟨decide (h=0),es'⟩)∧t2.C c=1∧m≤es'.length+1)∧v= .tuple #[.int .i64 (c:Int),.int .i64 (es'.length:Int),.int .i64 0]∧Γ=[trA Tb pp mb n o (some (t2,c::Q))]
theorem JA {key:Int} {L:List E} (h:(vals L).Nodup):(vals (delE key L)).Nodup:=by
 unfold vals delE
 exact List.Nodup.sublist (List.Sublist.map _ List.filter_sublist) h
theorem Wd {X Y:List E} {key:Int} {v0 c:Nat} {Q:List Nat} :(c::(vals (X++(key,v0)::Y)++Q)).Perm (v0::(c::(vals (X++Y)++Q))):=
 List.perm_iff_count.2 fun a=>by simp only[List.count_append,List.count_cons,CW,Do];omega
theorem Ti {X Y:List E} {e:E} {c:Nat} {Q:List Nat} :(c::(vals (X++e::Y)++Q)).Perm (e.2::(c::(vals X++(vals Y++Q)))):=
 List.perm_iff_count.2 fun a=>by simp only[List.count_append,List.count_cons,CW,Do];omega
theorem QW {X Y:List E} {k:Int} {c c2:Nat} {Q:List Nat} :(c2::(c::(vals X++(vals Y++Q)))).Perm (vals (X++(k,c2)::Y)++(c::Q)):=
 List.perm_iff_count.2 fun a=>by simp only[List.count_append,List.count_cons,CW,Do];omega
theorem KM {es:List E} {c:Nat} {Q:List Nat} :(vals es++(c::Q)).Perm (c::(vals es++Q)):=List.perm_middle
theorem Tj {N:Hm} {X Y:List E} {lo hi:Int} {key:Int} {v0:Nat} (ok:(Nd.mk true (X++(key,v0)::Y)).Ok) (hr:Bt lo hi (X++(key,v0)::Y)) (h:∀ e∈X++(key,v0)::Y,∃ b,N e.2=some (.dt b)) (hnd:(vals (X++(key,v0)::Y)).Nodup):
  delE key (X++(key,v0)::Y)=X++Y∧Bd N 0 (X++Y) hi (X++Y)∧Bt lo hi (X++Y)∧(Nd.mk true (X++Y)).Ok∧(vals (X++Y)).Nodup:=by
 have hs:Srt (X++(key,v0)::Y):=ok.srt
 obtain ⟨s1,s2,s3⟩:=Srt.app.1 hs
 have hm:∀ x∈X++Y,x∈X++(key,v0)::Y:=fun x hx=>by
  rcases List.mem_append.1 hx with q|q<;>simp[q]
 have hl:(X++(key,v0)::Y).length≤8:=ok.len
 refine ⟨Oa hs,⟨rfl,fun e he=>h e (hm e he)⟩,fun x hx=>hr x (hm x hx),⟨Srt.app.2 ⟨s1,(Srt.cons.1 s2).2,fun a ha b hb=>s3 a ha b (by simp[hb])⟩,by simp at hl ⊢;omega,fun e he=>ok.key e (hm e he),fun q=>by cases q⟩,?_⟩
 rw[Bg,BA] at hnd
 rw[Bg]
 exact (List.nodup_cons.1 (List.perm_middle.nodup_iff.1 hnd)).2
theorem YX {N:Hm} {h:Nat} {lo hi:Int} {L X Y:List E} {e:E} {key:Int} {v0:Nat} (hs:Srt (X++e::Y)) (hr:Bt lo hi (X++e::Y)) (hB:Bd N (h+1) (X++e::Y) hi L) (hX:X=[]∨e.1≤key) (hY:∀ x∈Y,key<x.1∧e.1<x.1) (hk:(key,v0)∈L):
  ∃ L0 Lc L2,(Sq (fun c a b L=>Tr N h c a b 4 L) X e.1 L0∧Tr N h e.2 e.1 (nx Y hi) 4 Lc∧Sq (fun c a b L=>Tr N h c a b 4 L) Y hi L2)∧L=L0++(Lc++L2)∧delE key L=L0++(delE key Lc++L2)∧(key,v0)∈Lc∧lo≤e.1∧nx Y hi≤hi:=by
 obtain ⟨L0,Lc,L2,rfl,h1,h2,h3⟩:=Sq.at hB
 obtain ⟨s1,s2,s3⟩:=Srt.app.1 hs
 have a1:=Sq.srt h1 s1 (fun x hx=>s3 x hx e (by simp)) (fun _ _ _ _ q=>Tr.srt q)
 have a3:=Sq.srt h3 (Srt.cons.1 s2).2 (fun x hx=>(hr x (by simp[hx])).2) (fun _ _ _ _ q=>Tr.srt q)
 have n0:∀ x∈L0,x.1≠key:=fun x hx=>by
  rcases hX with rfl|hX
  ·simp only[Sq] at h1;subst h1;simp at hx
  ·have:=a1.2.1 x hx;omega
 have n2:∀ x∈L2,x.1≠key:=fun x hx=>by
  cases Y with
  | nil=>simp only[Sq] at h3;subst h3;simp at hx
  | cons y t=>
   have:=a3.2.1 x hx
   have:=hY y (by simp)
   simp only[nx] at *;omega
 refine ⟨L0,Lc,L2,⟨h1,h2,h3⟩,rfl,?_,?_,(hr e (by simp)).1,Pb (fun x hx=>(hr x (by simp[hx])).2)⟩
 ·rw[G5,G5,GB n0,GB n2]
 ·rcases List.mem_append.1 hk with q|q
  ·exact absurd rfl (n0 _ q)
  ·rcases List.mem_append.1 q with q|q
   ·exact q
   ·exact absurd rfl (n2 _ q)
theorem rm_node {lo hi:Int} {X Y:List E} {e:E} (c2:Nat) (ok:(Nd.mk false (X++e::Y)).Ok) (hr:Bt lo hi (X++e::Y)):(Nd.mk false (X++(e.1,c2)::Y)).Ok∧Bt lo hi (X++(e.1,c2)::Y):=by
 have hs:Srt (X++e::Y):=ok.srt
 have hn:=IU (k1:=e.1) c2 hs hr (.inr rfl) (Int.le_refl _) (hr e (by simp)).1
 have hl:(X++e::Y).length≤8:=ok.len
 refine ⟨⟨hn.1,by simp at hl ⊢;omega,fun x hx=> ?_,fun _=>by simp⟩,hn.2⟩
 have hx:x∈X++(e.1,c2)::Y:=hx
 rcases List.mem_append.1 hx with hx|hx
 ·exact ok.key x (by simp[hx])
 ·rcases List.mem_cons.1 hx with rfl|hx
  ·exact ok.key e (by simp)
  ·exact ok.key x (by simp[hx])
theorem rm_pick {n:Nat} {t:TS} {Q:List Nat} {h c2:Nat} {lo hi:Int} {X Y:List E} {k:Int} {L0 Lc L2:List E} {m1:Nat} (ok:(Nd.mk false (X++(k,c2)::Y)).Ok) (r:Bt lo hi (X++(k,c2)::Y)) (q0:Sq (fun c a b L=>Tr t.N h c a b 4 L) X k L0) (qc:Tr t.N h c2 k (nx Y hi) m1 Lc) (q2:Sq (fun c a b L=>Tr t.N h c a b 4 L) Y hi L2)
  (h3:3≤m1) (h2:2≤(X++(k,c2)::Y).length) (l0:0≤lo) (h1:hi≤1048576) (hd:(vals (L0++(Lc++L2))).Nodup) (hk:t.k+5<40) (hb:Q.length+30+n≤980):
  ∃ U V f1 f2 m2 m3 M0 Ma Mb M2,X++(k,c2)::Y=U++f1::f2::V∧min (X.length:Int) (((X++(k,c2)::Y).length:Int) - 2)=(U.length:Int)∧L0++(Lc++L2)=M0++(Ma++(Mb++M2))∧MnPre n t Q h lo hi U V f1 f2 m2 m3 M0 Ma Mb M2:=by
 cases Y with
 | cons y Y=>
  obtain ⟨Ly,L3,rfl,hy,q3⟩:=q2
  refine ⟨X,Y,(k,c2),y,m1,4,L0,Lc,Ly,L3,rfl,?_,rfl,ok,r,q0,qc,hy,q3,by omega,l0,h1,?_,hk,hb⟩
  ·simp only[List.length_append,List.length_cons];omega
  ·rw[Bg,Bg,Bg,List.nodup_append] at hd
   have h5:=hd.2.1
   rw[←List.append_assoc,List.nodup_append] at h5
   rw[Bg];exact h5.1
 | nil=>
  have e2:L2=[]:=q2
  subst e2
  rcases List.eq_nil_or_concat X with rfl|⟨X',x,rfl⟩
  ·simp at h2
  ·rw[List.concat_eq_append] at *
   obtain ⟨La,Lb,rfl,qa,Lx,L5,rfl,hx,q5⟩:=Sq.app.1 q0
   have e5:L5=[]:=q5
   subst e5
   refine ⟨X',[],x,(k,c2),4,m1,La,Lx,Lc,[],by simp,?_,by simp,?_,?_,qa,hx,qc,rfl,by omega,l0,h1,?_,hk,hb⟩
   ·simp only[List.length_append,List.length_cons,List.length_nil];omega
   ·rw[List.append_assoc] at ok;exact ok
   ·rw[List.append_assoc] at r;exact r
   ·simp only[Bg,List.append_nil,List.append_assoc,List.nodup_append] at hd ⊢
    simp only[vals,List.map_nil,List.nil_append] at hd ⊢
    exact ⟨hd.2.1.1,hd.2.1.2.1,hd.2.1.2.2⟩
end
section
open Go.RowKit
variable {Tb:Ae}
set_option maxHeartbeats 2000000 in
theorem X9 (pp mb n:Nat) (o:TB) (t:TS) (Q:List Nat) (a:Nat) (lo hi:Int) (m:Nat) (key:Int) (v0:Nat) (L:List E) (hP:RmPre n t Q a 0 lo hi m key v0 L):Cn prog 58 [Pt_ pp,Iv_ (a:Int),Iv_ key] [trA Tb pp mb n o (some (t,a::Q))] (fun v Γ=>Jz Tb pp mb n o t Q 0 lo hi m key L v Γ):=by
 intro z R w H;replace H:=H.l1;have K:=H.says 0 rfl (fun h a=>trA.k a)
 have hn:=K.hn
 have hkin:=hP.kin;have h0:=hP.l0;have h1048:=hP.h1;have hdL:=hP.d;have htk:=hP.hk;have htb:=hP.hb
 obtain ⟨hmm1,hmm2⟩:=hP.mm;obtain ⟨es,hN,hm,hrg,hok,hLes,hdt⟩:=hP.T;have hck:CkN true (kL es) (vL es):=K.i.vok (by omega) hn.2 hN
 have hnd:=(K.i.nds a _ hN).2.1
 obtain rfl:es=L:=hLes.symm;refine Ad func58 rfl ntmps58 rfl (Zc 11 rfl (Ar rfl (call96 _) (Ie pp mb n o t Q a true es hN (by omega) (by omega)) H ?_));rintro _ w _ (⟨hnone,v1,v2,s,rfl,rfl⟩|⟨t1,c,v1,v2,O,rfl,rfl⟩) H'
 ·have H:=H'.l3;have sv1:=H.says 0 rfl (fun h q=>q.slc)
  have sv2:=H.says 1 rfl (fun h q=>q.slc)
  refine Za 4 [] H rfl ?_;intro b3 w H;refine Zc 1 rfl (AC rfl rfl (Ai 0 H rfl rfl rfl rfl (vs:=[.bool true,v1,v2]) rfl (Ac rfl (Ac sv1.one (Ac sv2.one Aw))) (by kernel_rfl) (by simp) (out:=[.bool true,v1,v2]) rfl) ?_);rintro w H;replace H:=H.l4;refine Z0 20 [3] rfl (Zr rfl ?_);exact ⟨_,.inl ⟨by omega,_,rfl,rfl⟩,H.perm 4 [3] rfl rfl⟩
 ·have H:=H'.l3;have sv1:=H.says 0 rfl (fun h q=>q.slc)
  have sv2:=H.says 1 rfl (fun h q=>q.slc)
  refine Za 4 [] H rfl ?_;intro b4 w H;refine Zc 1 rfl (AC rfl rfl (Ai 0 H rfl rfl rfl rfl (vs:=[.bool true,v1,v2]) rfl (Ac rfl (Ac sv1.one (Ac sv2.one Aw))) (by kernel_rfl) (by simp) (out:=[.bool true,v1,v2]) rfl) ?_);rintro w H;replace H:=H.l4;refine Z2 25 [4,0,0,0,0,3] H rfl (Ar rfl (call94 _) (MN (es:=es) (fun h q=>q.rd) (fun h q=>q.rd) hok.len hok.srt key) H.f2.f2 ?_);rintro _ w _ (⟨X,vd,Y,⟨hes,hX⟩,rfl,rfl⟩|⟨hno,i0,rfl,rfl⟩) H'
  ·have H:=H'.l4;refine Zc 9 rfl ?_;have hv1:∀ d,t1.N vd≠some (.nd d):=fun d q=>by obtain ⟨b,hb⟩:=hdt (key,vd) (by rw[hes];simp);rw[O.dv vd (by rw[hes];simp[vals]) b hb] at q;cases q
   obtain ⟨hdel,hBd2,hr2,ho2,hd2⟩:=Tj (N:=t1.N) (by rw[←hes];exact hok) (by rw[←hes];exact hrg) (fun e he=>by obtain ⟨b,hb⟩:=hdt e (by rw[hes];exact he);exact ⟨b,O.dv _ (by rw[hes];exact List.mem_map_of_mem he) b hb⟩) (by rw[←hes];exact hnd);obtain ⟨ao2,cc2,rfl⟩:=sv2;have hat:=(H.rd 1 rfl (fun h q=>q.rd)).at (j:=X.length) (u:=Iv_ (vd:Int)) (by rw[hes];simp[vL])
   replace H:=(H.mono 3 (B:=trA Tb pp mb n o (some (t1,vd::(c::(vals (X++Y)++Q))))) rfl (fun h q=>q.perm (by rw[hes];exact Wd))).l4
   refine Z2 5 [2,2,0] H rfl (Ab rfl (Ao rfl (z:=1) (j:=X.length) (r:=X.length) (by kernel_rfl) rfl rfl rfl (by rw[hes];simp) hat (by omega)) (Ab rfl (Az rfl rfl (by kernel_rfl) (Av hat)) (Ar rfl (call52 _) (FT pp mb n o t1 _ vd hv1) H.f3 ?_)));rintro _ w _ ⟨t2,⟨hS2,hq2,hC2,hN2,hF2⟩,rfl,rfl⟩ H;refine Z2 16 [4,3,3] H rfl ?_;have hvr:∀ v∈vals (X++Y),1≤v∧v<1024:=fun v hv=>by have K2:=H.says 0 rfl (fun h a=>trA.k a);have:=K2.i.rin v (by simp[Ci,hv]);omega
   refine Ar rfl (call97 _) (XX (lf:=true) (X:=X) (e:=(key,vd)) (Y:=Y) (by rw[←hes];exact (fun h q=>q.rd)) (by rw[←hes];exact (fun h q=>q.rd)) (by rw[←hes];exact hck) (CkN.of ho2 hvr)) H.f2.f2 ?_;rintro _ w _ ⟨v5,v6,rfl,rfl⟩ H;replace H:=H.l6;have sv5:=H.says 0 rfl (fun h q=>q.slc)
   have sv6:=H.says 1 rfl (fun h q=>q.slc)
   refine Zc 3 rfl (AC rfl rfl (Ai 5 H rfl rfl rfl rfl (vs:=[.bool true,v5,v6]) rfl (Ac rfl (Ac sv5.one (Ac sv6.one Aw))) (by kernel_rfl) (by simp) (out:=[.bool true,v5,v6]) rfl) ?_);rintro w H;replace H:=H.l6;refine Z0 14 [4] rfl ?_;replace H:=H.f5;refine AK (Sep z (blk b4 [.bool true,v5,v6] 92::R)) 11 rfl (by kernel_rfl) (Bc H fun w H'=> ?_)
   have H:=H'.l6;refine AZ [0,1,2] [1,0,0] [] (by exact (H.pick 6 [0] rfl)) rfl (by kernel_rfl) rfl (BC 3 rfl (by kernel_rfl) (by kernel_rfl) (by kernel_rfl) rfl rfl rfl (CI rfl (sz:=1) (by kernel_rfl) rfl sv5) (H.pick 6 [0] rfl) (AZ [4,5,6] [0,3] [] (by exact (H.pick 6 [0] rfl)) rfl (by kernel_rfl) rfl (AE [7] (by kernel_rfl) (by simp) (AB (B0 rfl rfl rfl rfl rfl rfl (fun w=>call98 _ w) (E3 pp mb n o t2 Q c true _ _ (X++Y) _ _ (fun h q=>q.rd) (fun h q=>q.rd) 0 lo hi (X++Y).length (X++Y) (hS2.bd (fun v hv=>by simp[hv]) hBd2) rfl hr2 (Nat.le_refl _) ho2 hd2 (hS2.op c (by simp) O.N0 O.C1).2 (hS2.op c (by simp) O.N0 O.C1).1 (by have:=O.st.k;have:=hS2.k;omega)) H.f2.f2.f5 rfl ?_)))));rintro _ w _ ⟨t3,⟨hSt3,hT3,hC3,hN3⟩,rfl,rfl⟩ H;replace H:=H.l6;refine Ax (H.pick 6 [3] rfl) (AZ [8,9,10] [] [] (by exact (H.pick 6 [3] rfl)) rfl (by kernel_rfl) rfl (a_done (by kernel_rfl) (gn (Zc 2 rfl (Zr rfl ?_)))));exact ⟨_,.inr ⟨t3,c,X++Y,⟨((O.st.sub (R':=Q) (fun p hp=>hp) (Nat.le_refl _) (Nat.le_refl _)).trans hS2 (R:=Q) (R1:=Q) (fun p hp=>hp) (fun p hp=>by simp[hp]) (e:=1) (f:=1) (by omega) (by omega)).trans hSt3 (fun p hp=>hp) (fun p hp=>hp) (by omega) (by omega),by rw[hes,hdel];exact hT3,by rw[hN3];exact Bn _ _ _,by rw[hC3];exact (hS2.op c (by simp) O.N0 O.C1).2,by have:es.length=X.length+Y.length+1:=(by rw[hes];simp;omega);simp only[List.length_append];omega⟩,congrArg (fun q:Int=>Value.tuple #[Iv_ (c:Int),Iv_ q,Iv_ 0]) (by simp),rfl⟩,H.perm 6 [0] rfl rfl⟩
  ·exact absurd ⟨v0,hkin⟩ hno
set_option maxHeartbeats 4000000 in
theorem Ya (pp mb n:Nat) (o:TB) (t:TS) (Q:List Nat) (h:Nat) (ih:∀ (t:TS) (Q:List Nat) (a:Nat) (lo hi:Int) (m:Nat) (key:Int) (v0:Nat) (L:List E),RmPre n t Q a h lo hi m key v0 L→Cn prog 58 [Pt_ pp,Iv_ (a:Int),Iv_ key] [trA Tb pp mb n o (some (t,a::Q))] (fun v Γ=>Jz Tb pp mb n o t Q h lo hi m key L v Γ)) (a:Nat) (lo hi:Int) (m:Nat) (key:Int) (v0:Nat) (L:List E) (hP:RmPre n t Q a (h+1) lo hi m key v0 L):Cn prog 58 [Pt_ pp,Iv_ (a:Int),Iv_ key] [trA Tb pp mb n o (some (t,a::Q))] (fun v Γ=>Jz Tb pp mb n o t Q (h+1) lo hi m key L v Γ):=by
 intro z R w H;replace H:=H.l1;have K:=H.says 0 rfl (fun h a=>trA.k a)
 have hn:=K.hn
 have hkin:=hP.kin;have h0:=hP.l0;have h1048:=hP.h1;have hdL:=hP.d;have htk:=hP.hk;have htb:=hP.hb
 obtain ⟨hmm1,hmm2⟩:=hP.mm;obtain ⟨es,hN,hm,hrg,hok,hBd⟩:=hP.T;refine Ad func58 rfl ntmps58 rfl (Zc 11 rfl (Ar rfl (call96 _) (Ie pp mb n o t Q a false es hN (by omega) (by omega)) H ?_));rintro _ w _ (⟨hnone,v1,v2,s,rfl,rfl⟩|⟨t1,c,v1,v2,O,rfl,rfl⟩) H'
 ·have H:=H'.l3;have sv1:=H.says 0 rfl (fun h q=>q.slc)
  have sv2:=H.says 1 rfl (fun h q=>q.slc)
  refine Za 4 [] H rfl ?_;intro b3 w H;refine Zc 1 rfl (AC rfl rfl (Ai 0 H rfl rfl rfl rfl (vs:=[.bool false,v1,v2]) rfl (Ac rfl (Ac sv1.one (Ac sv2.one Aw))) (by kernel_rfl) (by simp) (out:=[.bool false,v1,v2]) rfl) ?_);rintro w H;replace H:=H.l4;refine Z0 20 [3] rfl (Zr rfl ?_);exact ⟨_,.inl ⟨by omega,_,rfl,rfl⟩,H.perm 4 [3] rfl rfl⟩
 ·have H:=H'.l3;have sv1:=H.says 0 rfl (fun h q=>q.slc)
  have sv2:=H.says 1 rfl (fun h q=>q.slc)
  refine Za 4 [] H rfl ?_;intro b4 w H;refine Zc 1 rfl (AC rfl rfl (Ai 0 H rfl rfl rfl rfl (vs:=[.bool false,v1,v2]) rfl (Ac rfl (Ac sv1.one (Ac sv2.one Aw))) (by kernel_rfl) (by simp) (out:=[.bool false,v1,v2]) rfl) ?_);rintro w H;replace H:=H.l4;refine Z2 27 [4,0,0,0,0,3] H rfl (Ar rfl (call95 _) (Kg (es:=es) (fun h q=>q.rd) (fun h q=>q.rd) hok.len hok.srt (hok.ne rfl) key) H.f2.f2 ?_);rintro _ w _ ⟨X,e,Y,⟨hes,hX,hXe,hY⟩,rfl,rfl⟩ H;refine Zc 4 rfl ?_;obtain ⟨ao2,cc2,rfl⟩:=sv2;have hat:=(H.rd 1 rfl (fun h q=>q.rd)).at (j:=X.length) (u:=Iv_ (e.2:Int)) (by rw[hes];simp[vL])
  replace H:=(H.mono 3 (B:=trA Tb pp mb n o (some (t1,e.2::(c::(vals X++(vals Y++Q)))))) rfl (fun h q=>q.perm (by rw[hes];exact Ti))).l4
  have hs1:Srt (X++e::Y):=by rw[←hes];exact hok.srt
  have hr1:Bt lo hi (X++e::Y):=by rw[←hes];exact hrg
  have ho1:(Nd.mk false (X++e::Y)).Ok:=by rw[←hes];exact hok
  obtain ⟨L0,Lc,L2,⟨hq0,hqc,hq2⟩,hLe,hLd,hkc,hb1,hb4⟩:=YX hs1 hr1 (by rw[←hes];exact O.bd hBd) hX hY hkin;have hel:X.length+Y.length+1=es.length:=by rw[hes];simp;omega
  have hes8:es.length≤8:=hok.len
  have hdc:(vals Lc).Nodup:=by rw[hLe,Bg,Bg,List.nodup_append] at hdL;have h5:=hdL.2.1;rw[List.nodup_append] at h5;exact h5.1
  refine Z2 5 [2,2,0] H rfl (Ab rfl (Ao rfl (z:=1) (j:=X.length) (r:=X.length) (by kernel_rfl) rfl rfl rfl (by rw[hes];simp) hat (by omega)) (Ab rfl (Az rfl rfl (by kernel_rfl) (Av hat)) (Zc 1 rfl (Ar rfl (call58 _) (ih t1 (c::(vals X++(vals Y++Q))) e.2 e.1 (nx Y hi) 4 key v0 Lc ⟨hqc,hkc,by omega,by omega,hdc,⟨by omega,fun _=>by omega⟩,by have:=O.st.k;omega,by simp only[List.length_cons,List.length_append,IV];omega⟩) H.f3 ?_))));rintro _ w _ (⟨hf2,s2,rfl,rfl⟩|⟨t2,c2,es',⟨hSt2,hT2,hN2,hC2,hm2⟩,rfl,rfl⟩) H'
  ·have H:=H'.l4;refine Z0 26 [3] rfl (Zr rfl ?_);exact ⟨_,.inl ⟨by have:=O.st.f;omega,_,rfl,rfl⟩,H.perm 4 [0] rfl rfl⟩
  ·have H:=H'.l4;refine Z0 20 [4] rfl ?_;have hXl:X.length<es.length:=by rw[hes];simp
   have hnev:0<(vL es).length:=by simp only[List.length_map];omega
   obtain ⟨gv_,cap_gv_,rest_gv_,hgq,c1gv_,c2gv_,c3gv_,H'⟩:=H.ungrow 2 rfl hnev;cases hgq;clear H;have H:=H'.l4;refine Z2 5 [2,3,0] H rfl (Ab rfl (B4 rfl (z:=1) (j:=X.length) (r:=X.length) (by kernel_rfl) rfl rfl rfl (by simp only[List.length_map];omega) (by omega)) (AC rfl rfl (Ai 2 H rfl rfl rfl rfl (vs:=[Iv_ (c2:Int)]) rfl (by simp[u8,u32,Value.oneCell']) (by kernel_rfl) (by simp only[List.length_append,List.length_map,List.length_cons,List.length_nil];omega) (out:=(((vL es).set X.length (c2:Int)).map Iv_++rest_gv_)) (Dj (by simp only[List.length_map];omega))) ?_));rintro w H;replace H:=H.l4;refine Zc 4 rfl ?_;have hlv:(vL es).length=(vL (X++(e.1,c2)::Y)).length:=by rw[hes];simp
   have hvs:(vL es).set X.length (c2:Int)=vL (X++(e.1,c2)::Y):=by rw[hes];simp[vL,List.set_append]
   have hke:kL es=kL (X++(e.1,c2)::Y):=by rw[hes];simp[kL]
   have hkl:(kL es).length=es.length:=by simp
   obtain ⟨ho2,hr2⟩:=rm_node c2 ho1 hr1;have hs0:Sq (fun c a b L=>Tr t2.N h c a b 4 L) X e.1 L0:=Sq.st hSt2 (fun v hv=>by simp[hv]) hq0
   have hs2:Sq (fun c a b L=>Tr t2.N h c a b 4 L) Y hi L2:=Sq.st hSt2 (fun v hv=>by simp[hv]) hq2
   have hE2:(X++(e.1,c2)::Y).length=es.length:=by simp only[List.length_append,List.length_cons];omega
   have hcO:=hSt2.op c (by simp) O.N0 O.C1
   have hdL2:(vals (L0++(delE key Lc++L2))).Nodup:=by rw[←hLd];exact JA hdL
   replace H:=(H.mono 2 (B:=grow 3 1 (.slice (some ⟨gv_,0,none⟩) ((vL es).length) cc2) ((vL es).length) ((vL (X++(e.1,c2)::Y)).map Iv_)) rfl (fun h q=>q.grow (by omega) (by omega) (by simp only[List.length_append,List.length_map,List.length_set];simp only[List.length_map] at *;omega) (by rw[Nat.mul_one,List.take_left' (by simp),hvs]))).l4
   replace H:=(H.mono 0 (B:=trA Tb pp mb n o (some (t2,vals (X++(e.1,c2)::Y)++(c::Q)))) rfl (fun h q=>q.perm QW)).l4
   refine Z0 4 [0] rfl (Ak 87 rfl (fun h1=> ?_) (fun h1=> ?_))
   ·refine Z2 2 [1,3,0] H rfl (Ab rfl (CI rfl (sz:=1) (by kernel_rfl) rfl sv1) (Z0 4 [0] rfl (Af rfl (fun h2=> ?_) (fun h2=> ?_))))
    ·refine Zc 1 rfl ?_;have hm23:3≤es'.length:=by omega
     obtain ⟨U,V,f1,f2,m2,m3,M0,Ma,Mb,M2,hU,hmin,hMM,hMn⟩:=rm_pick (n:=n) (t:=t2) (Q:=c::Q) ho2 hr2 hs0 hT2 hs2 hm23 (by omega) h0 h1048 hdL2 (by have:=O.st.k;have:=hSt2.k;omega) (by simp only[List.length_cons];omega);replace H:=(H.mono 1 (B:=grow 3 1 v1 ((kL (U++f1::f2::V)).length) ((kL (U++f1::f2::V)).map Iv_)) rfl (fun h q=>by rw[←hU,←hke];exact q)).l4
     replace H:=(H.mono 2 (B:=grow 3 1 (.slice (some ⟨gv_,0,none⟩) ((vL es).length) cc2) ((vL (U++f1::f2::V)).length) ((vL (U++f1::f2::V)).map Iv_)) rfl (fun h q=>by rw[←hU,←hlv];exact q)).l4
     replace H:=(H.mono 0 (B:=trA Tb pp mb n o (some (t2,vals (U++f1::f2::V)++(c::Q)))) rfl (fun h q=>by rw[←hU];exact q)).l4
     refine Z2 6 [3,3,1,3,0] H rfl (Ab rfl (CI rfl (sz:=1) (by kernel_rfl) rfl sv1) (Z1 1 [] [(((kL es).length:Nat):Int) - 2] rfl (by omega) (Ab rfl (I1 rfl rfl rfl) (AJ 101 (v:=Iv_ (U.length:Int)) rfl (congrArg Iv_ (by rw[←hmin,hE2,hkl])) (Ar rfl (call99 _) (X8 pp mb n o t2 (c::Q) _ _ h lo hi U V f1 f2 m2 m3 M0 Ma Mb M2 hMn) H ?_)))));rintro _ w _ (⟨hf3,v5,v6,es3,s3,rfl,rfl⟩|⟨t3,es3,v5,v6,⟨hSt3,hB3,hr3,ho3,hd3,hl3⟩,rfl,rfl⟩) H'
     ·have H:=H'.l4;have sv5:=H.says 0 rfl (fun h q=>q.slc)
      have sv6:=H.says 1 rfl (fun h q=>q.slc)
      refine Zc 3 rfl (AC rfl rfl (Ai 3 H rfl rfl rfl rfl (vs:=[.bool false,v5,v6]) rfl (Ac rfl (Ac sv5.one (Ac sv6.one Aw))) (by kernel_rfl) (by simp) (out:=[.bool false,v5,v6]) rfl) ?_);rintro w H;replace H:=H.l4;refine Z0 19 [3] rfl (Zr rfl ?_);exact ⟨_,.inl ⟨by have:=O.st.f;have:=hSt2.f;omega,_,rfl,rfl⟩,H.perm 4 [2] rfl rfl⟩
     ·have H:=H'.l4;have sv5:=H.says 0 rfl (fun h q=>q.slc)
      have sv6:=H.says 1 rfl (fun h q=>q.slc)
      refine Zc 3 rfl (AC rfl rfl (Ai 3 H rfl rfl rfl rfl (vs:=[.bool false,v5,v6]) rfl (Ac rfl (Ac sv5.one (Ac sv6.one Aw))) (by kernel_rfl) (by simp) (out:=[.bool false,v5,v6]) rfl) ?_);rintro w H;replace H:=H.l4;refine Z0 13 [4] rfl ?_;have hcO3:=hSt3.op c (by simp) hcO.1 hcO.2
      replace H:=(H.mono 2 (B:=trA Tb pp mb n o (some (t3,c::(vals es3++Q)))) rfl (fun h q=>q.perm KM)).l4
      replace H:=H.f3;refine AK (Sep z (blk b4 [.bool false,v5,v6] 92::R)) 11 rfl (by kernel_rfl) (Bc H fun w H'=> ?_)
      have H:=H'.l4;refine AZ [0,1,2] [1,0,0] [] (by exact (H.pick 4 [0] rfl)) rfl (by kernel_rfl) rfl (BC 3 rfl (by kernel_rfl) (by kernel_rfl) (by kernel_rfl) rfl rfl rfl (CI rfl (sz:=1) (by kernel_rfl) rfl sv5) (H.pick 4 [0] rfl) (AZ [4,5,6] [0,3] [] (by exact (H.pick 4 [0] rfl)) rfl (by kernel_rfl) rfl (AE [7] (by kernel_rfl) (by simp) (AB (B0 rfl rfl rfl rfl rfl rfl (fun w=>call98 _ w) (E3 pp mb n o t3 Q c false _ _ es3 _ _ (fun h q=>q.rd) (fun h q=>q.rd) (h+1) lo hi es3.length (delE key L) (by rw[hLd,hMM];exact hB3) (by simp) hr3 (Nat.le_refl _) ho3 hd3 hcO3.2 hcO3.1 (by have:=O.st.k;have:=hSt2.k;have:=hSt3.k;omega)) H.f2.f2.f3 rfl ?_)))));rintro _ w _ ⟨t4,⟨hSt4,hT4,hC4,hN4⟩,rfl,rfl⟩ H;replace H:=H.l4;refine Ax (H.pick 4 [3] rfl) (AZ [8,9,10] [] [] (by exact (H.pick 4 [3] rfl)) rfl (by kernel_rfl) rfl (a_done (by kernel_rfl) (gn (Zc 2 rfl (Zr rfl ?_)))));exact ⟨_,.inr ⟨t4,c,es3,⟨(((O.st.sub (R':=Q) (fun p hp=>hp) (Nat.le_refl _) (Nat.le_refl _)).trans hSt2 (R:=Q) (R1:=Q) (fun p hp=>hp) (fun p hp=>by simp[hp]) (Nat.le_refl _) (Nat.le_refl _)).trans hSt3 (R:=Q) (R1:=Q) (fun p hp=>hp) (fun p hp=>by simp[hp]) (Nat.le_refl _) (Nat.le_refl _)).trans hSt4 (fun p hp=>hp) (fun p hp=>hp) (by omega) (by omega),hT4,by rw[hN4];simp[Bn],by rw[hC4];exact hcO3.2,by rw[←hU,hE2] at hl3;omega⟩,congrArg (fun q:Int=>Value.tuple #[Iv_ (c:Int),Iv_ q,Iv_ 0]) (by simp),rfl⟩,H.perm 4 [0] rfl rfl⟩
    ·(exfalso;have:=hmm2 (by omega);simp only[List.length_map] at *;omega)
   ·refine Zc 11 rfl ?_;have hB3:Bd t2.N (h+1) (X++(e.1,c2)::Y) hi (L0++(delE key Lc++L2)):=Sq.mk (e:=(e.1,c2)) hs0 (hT2.mono (Int.le_refl _) (Int.le_refl _) (by omega)) hs2
    replace H:=(H.mono 0 (B:=trA Tb pp mb n o (some (t2,c::(vals (X++(e.1,c2)::Y)++Q)))) rfl (fun h q=>q.perm KM)).l4
    replace H:=(H.mono 1 (B:=grow 3 1 v1 ((kL es).length) ((kL (X++(e.1,c2)::Y)).map Iv_)) rfl (fun h q=>by rw[←hke];exact q)).l4
    replace H:=H.f3;refine AK (Sep z (blk b4 [.bool false,v1,.slice (some ⟨gv_,0,none⟩) ((vL es).length) cc2] 92::R)) 11 rfl (by kernel_rfl) (Bc H fun w H'=> ?_)
    have H:=H'.l4;refine AZ [0,1,2] [1,0,0] [] (by exact (H.pick 4 [0] rfl)) rfl (by kernel_rfl) rfl (BC 3 rfl (by kernel_rfl) (by kernel_rfl) (by kernel_rfl) rfl rfl rfl (CI rfl (sz:=1) (by kernel_rfl) rfl sv1) (H.pick 4 [0] rfl) (AZ [4,5,6] [0,3] [] (by exact (H.pick 4 [0] rfl)) rfl (by kernel_rfl) rfl (AE [7] (by kernel_rfl) (by simp) (AB (B0 rfl rfl rfl rfl rfl rfl (fun w=>call98 _ w) (E3 pp mb n o t2 Q c false _ _ (X++(e.1,c2)::Y) _ _ (fun h q=>by rw[←hke];rw[←hke] at q;exact q.rd) (fun h q=>by rw[←hlv];exact q.rd) (h+1) lo hi (X++(e.1,c2)::Y).length (delE key L) (by rw[hLd];exact hB3) (by simp) hr2 (Nat.le_refl _) ho2 (hB3.nodup ho2.srt (fun x hx=>(hr2 x hx).2)) hcO.2 hcO.1 (by have:=O.st.k;have:=hSt2.k;omega)) H.f3.f3.f3 rfl ?_)))));rintro _ w _ ⟨t4,⟨hSt4,hT4,hC4,hN4⟩,rfl,rfl⟩ H;replace H:=H.l4;refine Ax (H.pick 4 [3] rfl) (AZ [8,9,10] [] [] (by exact (H.pick 4 [3] rfl)) rfl (by kernel_rfl) rfl (a_done (by kernel_rfl) (gn (Zc 2 rfl (Zr rfl ?_)))));exact ⟨_,.inr ⟨t4,c,(X++(e.1,c2)::Y),⟨((O.st.sub (R':=Q) (fun p hp=>hp) (Nat.le_refl _) (Nat.le_refl _)).trans hSt2 (R:=Q) (R1:=Q) (fun p hp=>hp) (fun p hp=>by simp[hp]) (Nat.le_refl _) (Nat.le_refl _)).trans hSt4 (fun p hp=>hp) (fun p hp=>hp) (by omega) (by omega),hT4,by rw[hN4];simp[Bn],by rw[hC4];exact hcO.2,by rw[hE2];omega⟩,congrArg (fun q:Int=>Value.tuple #[Iv_ (c:Int),Iv_ q,Iv_ 0]) (by simp only[List.length_map];omega),rfl⟩,H.perm 4 [0] rfl rfl⟩
end
section
open Go.RowKit
variable {Tb:Ae}
theorem MT (pp mb n:Nat) (o:TB):∀ (h:Nat) (t:TS) (Q:List Nat) (a:Nat) (lo hi:Int) (m:Nat) (key:Int) (v0:Nat) (L:List E),RmPre n t Q a h lo hi m key v0 L→Cn prog 58 [Pt_ pp,Iv_ (a:Int),Iv_ key] [trA Tb pp mb n o (some (t,a::Q))] (fun v Γ=>Jz Tb pp mb n o t Q h lo hi m key L v Γ)
 | 0=>fun t Q a lo hi m key v0 L hP=>X9 pp mb n o t Q a lo hi m key v0 L hP
 | h+1=>fun t Q a lo hi m key v0 L hP=>Ya pp mb n o t Q h (MT pp mb n o h) a lo hi m key v0 L hP
abbrev rootM (h:Nat):Nat:=if h=0 then 1 else 2
theorem Tr.data {N:Hm} {h r:Nat} {lo hi:Int} {m:Nat} {L:List E} (t:Tr N h r lo hi m L):∀ e∈L,∃ b,N e.2=some (.dt b):=by
 induction h generalizing r lo hi m L with
 | zero=>obtain ⟨es,_,_,_,_,rfl,h⟩:=t;exact h
 | succ h ih=>
  obtain ⟨es,_,_,_,_,h5⟩:=t
  have key:∀ (es:List E) (L:List E),Sq (fun c a b L=>Tr N h c a b 4 L) es hi L→∀ e∈L,∃ b,N e.2=some (.dt b):=by
   intro es
   induction es with
   | nil=>intro L q;have q:L=[]:=q;subst q;simp
   | cons e u ih2=>
    rintro _ ⟨L1,L2,rfl,h6,h7⟩ x hx
    rcases List.mem_append.1 hx with hx|hx
    ·exact ih h6 x hx
    ·exact ih2 L2 h7 x hx
  exact key es L h5
theorem delR_none {N:Hm} {h c:Nat} {lo hi:Int} {m:Nat} {L es:List E} {lf:Bool} (t:Tr N h c lo hi m L) (hN:N c=some (.nd ⟨lf,es⟩)) (h0:es.length=0):L=[]:=by
 have he:es=[]:=List.length_eq_zero_iff.1 h0
 subst he
 obtain ⟨es',h1,_,_,h4,h5⟩:=Tr.iff.1 t
 rw[h1] at hN;cases hN
 cases h with
 | zero=>exact h5.1
 | succ h=>exact absurd rfl (h4.ne (by simp))
theorem Tk {N:Hm} {h c:Nat} {m:Nat} {L es:List E} {lf:Bool} (t:Tr N h c 0 1048576 m L) (hN:N c=some (.nd ⟨lf,es⟩)) (h1:es.length=1) (hh:h≠0):∃ e h',es=[e]∧h=h'+1∧Tr N h' e.2 0 1048576 4 L:=by
 obtain ⟨e,rfl⟩:=List.length_eq_one_iff.1 h1
 obtain ⟨h',rfl⟩:∃ h',h=h'+1:=⟨h - 1,by omega⟩
 obtain ⟨es',h2,_,h3,h4,h5⟩:=t
 rw[h2] at hN;cases hN
 obtain ⟨L1,L2,rfl,h6,h7⟩:=h5
 have h7:L2=[]:=h7
 subst h7
 have:=h3 e (by simp)
 refine ⟨e,h',rfl,rfl,?_⟩
 rw[List.append_nil]
 exact h6.mono this.1 (Int.le_refl _) (Nat.le_refl _)
theorem root_of {N:Hm} {h r:Nat} {m:Nat} {L:List E} (t:Tr N h r 0 1048576 m L) (hm:rootM h≤m) (hr:r≠0):Root N r L:= .inr ⟨hr,h,t.mono (Int.le_refl _) (Int.le_refl _) hm⟩
theorem DE {r:Nat} (h:r≠0):BQ r=[r]:=by simp[BQ,h]
end
section
open Go.RowKit
variable {Tb:Ae}
theorem Tl {n:Nat} {o:TB} {T:TT} (K:TrK n o T) {h r:Nat} {lo hi:Int} {m:Nat} {L:List E} (t:Tr (EH o T) h r lo hi m L) {key:Int} {v0:Nat} (hk:(key,v0)∈L):1≤v0:=by
 have:∃ b,EH o T v0=some (.dt b):=Tr.data t (key,v0) hk
 obtain ⟨b,hb⟩:=this
 have:=(K.i.nin v0 _ hb).1
 omega
set_option maxHeartbeats 2000000 in
theorem Yb (pp mb n:Nat) (o:TB) (t:TS) (Q:List Nat) (h a:Nat) (key:Int) (L:List E) (hT:Tr t.N h a 0 1048576 (rootM h) L) (hd:(vals L).Nodup) (hk:t.k+6 * h+4<40) (hb:Q.length+10 * h+42+n≤980):Cn prog 27 [Pt_ pp,Iv_ (a:Int),Iv_ key] [trA Tb pp mb n o (some (t,a::Q))] (fun v Γ=>(¬ Cr key L∧v= .tuple #[Iv_ (a:Int),.bool false,Iv_ 0]∧Γ=[trA Tb pp mb n o (some (t,a::Q))])∨(cnt t.F 0 1024≤3 * h∧∃ s:TS×List Nat,v= .tuple #[Iv_ 0,.bool false,Iv_ 20]∧Γ=[trA Tb pp mb n o (some s)])∨∃ (t2:TS) (r:Nat),(Cr key L∧St t t2 Q (3 * h+2) (6 * h+3)∧Root t2.N r (delE key L))∧v= .tuple #[Iv_ (r:Int),.bool true,Iv_ 0]∧Γ=[trA Tb pp mb n o (some (t2,BQ r++Q))]):=by
 intro z R w H;replace H:=H.l1;have K:=H.says 0 rfl (fun h a=>trA.k a)
 have hn:=K.hn
 refine Ad func27 rfl ntmps27 rfl (Zc 11 rfl (z_E_ rfl (call56 _) (MS pp mb n o _) H ?_));intro w H;refine Z0 17 [4] rfl (Ar rfl (call57 _) (V9 pp mb n o (some (t,a::Q)) key L h a _ _ _ hT) H ?_);rintro _ w _ ⟨(⟨v0,hkin,rfl⟩|⟨hno,rfl⟩),rfl⟩ H'
 ·have H:=H'.l1;refine Zc 9 rfl ?_;have hv00:1≤v0:=Tl K hT hkin
  refine Z0 9 [4,0] rfl (Af rfl (fun h1=> ?_) (fun h1=> ?_))
  ·(exfalso;omega)
  ·refine Zc 7 rfl (Ar rfl (call58 _) (MT pp mb n o h t Q a 0 1048576 (rootM h) key v0 L ⟨hT,hkin,by omega,by omega,hd,⟨by unfold rootM;split<;>omega,fun q=>by unfold rootM;rw[if_neg q];omega⟩,hk,hb⟩) H ?_);rintro _ w _ (⟨hf2,s2,rfl,rfl⟩|⟨t2,c,es',⟨hSt2,hT2,hN2,hC2,hm2⟩,rfl,rfl⟩) H'
   ·have H:=H'.l1;refine Z0 26 [3] rfl (Zr rfl ?_);exact ⟨_,.inr (.inl ⟨hf2,_,rfl,rfl⟩),H.perm 1 [0] rfl rfl⟩
   ·have H:=H'.l1;refine Z0 23 [4] rfl (Ar rfl (call50 _) (Fc pp mb n o (some (t2,c::Q)) c (decide (h=0)) es' hN2) H ?_);rintro _ w _ ⟨v1,v2,rfl,rfl⟩ H;replace H:=H.l3;have sv1:=H.says 0 rfl (fun h q=>q.slc)
    have sv2:=H.says 1 rfl (fun h q=>q.slc)
    refine Za 3 [] H rfl ?_;intro b3 w H;refine AC rfl rfl (Ai 0 H rfl rfl rfl rfl (vs:=[.bool (decide (h=0)),v1,v2]) rfl (Ac rfl (Ac sv1.one (Ac sv2.one Aw))) (by kernel_rfl) (by simp) (out:=[.bool (decide (h=0)),v1,v2]) rfl) ?_;rintro w H;replace H:=H.l4;refine Z0 20 [4,0] rfl (Af rfl (fun h2=> ?_) (fun h2=> ?_))
    ·refine Zc 1 rfl ?_;have hes0:es'=[]:=List.length_eq_zero_iff.1 (by omega)
     have O2:=Kc (show TInv n (manyN n+1) t2.N t2.C (c::Q) from (H.says 3 rfl (fun h a=>trA.k a)).i) hC2 hN2
     replace H:=(H.mono 3 (B:=trA Tb pp mb n o (some ({ t2 with N:=fup t2.N c none },c::(vals es'++Q)))) rfl (fun h q=>q.opens hC2 hN2)).l4
     refine Zc 3 rfl (Ar rfl (call52 _) (FT pp mb n o _ _ c (fun d q=>by simp[fup] at q)) H.f3 ?_);rintro _ w _ ⟨t3,⟨hS3,hq3,hC3,hN3,hF3⟩,rfl,rfl⟩ H;refine Zc 6 rfl (Zr rfl ?_);exact ⟨_,.inr (.inr ⟨t3,0,⟨⟨v0,hkin⟩,(hSt2.trans O2.st (R:=Q) (R1:=Q) (fun p hp=>hp) (fun p hp=>hp) (Nat.le_refl _) (Nat.le_refl _)).trans hS3 (fun p hp=>hp) (fun p hp=>by simp[hp]) (by omega) (by omega),.inl ⟨rfl,delR_none hT2 hN2 (by omega)⟩⟩,rfl,by rw[hes0];rfl⟩),H.perm 4 [0] rfl rfl⟩
    ·refine Z2 6 [0,0,0] H rfl (GO 66 rfl (fun h3=> ?_) (fun h3=> ?_))
     ·have hh0:h≠0:=by simpa using h3
      refine Z0 6 [0] rfl (Af rfl (fun h4=> ?_) (fun h4=> ?_))
      ·refine Zc 1 rfl ?_;obtain ⟨e,h',hes1,hhh,hTe⟩:=Tk hT2 hN2 (by omega) hh0;have O2:=Kc (show TInv n (manyN n+1) t2.N t2.C (c::Q) from (H.says 3 rfl (fun h a=>trA.k a)).i) hC2 hN2
       replace H:=(H.mono 3 (B:=trA Tb pp mb n o (some ({ t2 with N:=fup t2.N c none },c::(vals es'++Q)))) rfl (fun h q=>q.opens hC2 hN2)).l4
       obtain ⟨ao2,cc2,rfl⟩:=sv2;have hat:=(H.rd 2 rfl (fun h q=>q.rd)).at (j:=0) (u:=Iv_ (e.2:Int)) (by rw[hes1];simp[vL])
       replace H:=(H.mono 3 (B:=trA Tb pp mb n o (some ({ t2 with N:=fup t2.N c none },c::(e.2::Q)))) rfl (fun h q=>by rw[hes1] at q;exact q)).l4
       replace H:=H.f2.f1;refine AK (Sep z (blk b3 [.bool (decide (h=0)),v1,.slice ao2 ((vL es').length) cc2] 92::grow 3 1 (.slice ao2 ((vL es').length) cc2) ((vL es').length) ((vL es').map Iv_)::R)) 10 rfl (by kernel_rfl) (Bc H fun w H'=> ?_)
       have H:=H'.l4;refine AZ [0,1] [2,0,0] [] (by exact (H.pick 4 [0,1] rfl)) rfl (by kernel_rfl) rfl (BC 2 rfl (by kernel_rfl) (by kernel_rfl) (by kernel_rfl) rfl rfl rfl (Ao rfl (z:=1) (j:=0) (r:=0) (by kernel_rfl) rfl rfl rfl (by simp only[List.length_map];omega) hat (by omega)) (H.pick 4 [0,1] rfl) (BC 3 rfl (by kernel_rfl) (by kernel_rfl) (by kernel_rfl) rfl rfl rfl (Az rfl rfl (by kernel_rfl) (fun _ hx'=>(hx'.rd 1 rfl (fun h q=>q.rd)).at (j:=0) (u:=Iv_ (e.2:Int)) (by rw[hes1];simp[vL]))) (H.pick 4 [0,1] rfl) (AZ [4,5] [] [] (by exact (H.pick 4 [0,1] rfl)) rfl (by kernel_rfl) rfl (AE [6] (by kernel_rfl) (by simp) (AB (B0 rfl rfl rfl rfl rfl rfl (fun w=>call52 _ w) (FT pp mb n o _ _ c (fun d q=>by simp[fup] at q)) H.f3 rfl ?_))))));rintro _ w _ ⟨t3,⟨hS3,hq3,hC3,hN3,hF3⟩,rfl,rfl⟩ H;replace H:=H.l4;refine Ax (H.pick 4 [1,2] rfl) (AZ [7,8,9] [] [] (by exact (H.pick 4 [1,2] rfl)) rfl (by kernel_rfl) rfl (a_done (by kernel_rfl) (gn (Zc 2 rfl (Zr rfl ?_)))));have hr0:manyN n+1≤e.2:=by have K3:=H.says 0 rfl (fun h a=>trA.k a);exact (K3.i.rin e.2 (by simp[Ci])).1
       exact ⟨_,.inr (.inr ⟨t3,e.2,⟨⟨v0,hkin⟩,(hSt2.trans O2.st (R:=Q) (R1:=Q) (fun p hp=>hp) (fun p hp=>hp) (Nat.le_refl _) (Nat.le_refl _)).trans hS3 (fun p hp=>hp) (fun p hp=>by simp[hp]) (by omega) (by omega),root_of (hS3.fr e.2 (by simp) _ _ _ _ _ (O2.fv e.2 (by rw[hes1];simp[vals]) _ _ _ _ _ hTe)) (by unfold rootM;split<;>omega) (by omega)⟩,rfl,by rw[DE (show e.2≠0 by omega)];rfl⟩),H.perm 4 [0] rfl rfl⟩
      ·refine Zc 12 rfl (Zr rfl ?_);have hr0:manyN n+1≤c:=by have K3:=H.says 3 rfl (fun h a=>trA.k a);exact (K3.i.rin c (by simp[Ci])).1
       exact ⟨_,.inr (.inr ⟨t2,c,⟨⟨v0,hkin⟩,hSt2.sub (fun p hp=>hp) (by omega) (by omega),root_of hT2 (by unfold rootM;split<;>omega) (by omega)⟩,rfl,by rw[DE (show c≠0 by omega)];rfl⟩),H.perm 4 [3] rfl rfl⟩
     ·have hh1:h=0:=by simpa using h3
      refine Zc 19 rfl (Zr rfl ?_);have hr0:manyN n+1≤c:=by have K3:=H.says 3 rfl (fun h a=>trA.k a);exact (K3.i.rin c (by simp[Ci])).1
      exact ⟨_,.inr (.inr ⟨t2,c,⟨⟨v0,hkin⟩,hSt2.sub (fun p hp=>hp) (by omega) (by omega),root_of hT2 (by unfold rootM;split<;>omega) (by omega)⟩,rfl,by rw[DE (show c≠0 by omega)];rfl⟩),H.perm 4 [3] rfl rfl⟩
 ·have H:=H'.l1;refine Z0 29 [4,3] rfl (Zr rfl ?_);exact ⟨_,.inl ⟨hno,rfl,rfl⟩,H.perm 1 [0] rfl rfl⟩
end
section
open Go.RowKit
variable {Tb:Ae}
def pkI (c:Int) (N:Nat):Nat:=((if c<0 then -(c+1) else c).tmod N).toNat
theorem Yc (c:Int) {N:Nat} (h:0<N):pkI c N<N:=by
 unfold pkI
 have h1:(0:Int)≤if c<0 then -(c+1) else c:=by split<;>omega
 have h2:=Int.tmod_lt_of_pos (if c<0 then -(c+1) else c) (by omega:(0:Int)<(N:Int))
 have h3:=Int.tmod_nonneg (N:Int) h1
 omega
def FU (kd fl:Int):Pg:=⟨kd,List.replicate 240 (E4 fl)⟩
theorem Yd {kd:Int} (fl:Int) (h:1≤kd∧kd≤5):(FU kd fl).Ok:=⟨h,by simp[FU]⟩
theorem Oi (kd fl:Int):(FU kd fl).body.length=240:=by simp[FU]
theorem QX (i:Nat) (x y:UInt8) (hi:i<240):((List.replicate i x++List.replicate (240 - i) y).map u8).take i++[u8 x]++((List.replicate i x++List.replicate (240 - i) y).map u8).drop (i+1)=(List.replicate (i+1) x++List.replicate (240 - (i+1)) y).map u8:=by
 rw[List.map_append,List.take_append_of_le_length (by simp),List.take_of_length_le (by simp),List.drop_append,List.drop_of_length_le (by simp),List.nil_append]
 simp only[List.map_replicate,List.length_replicate,List.drop_replicate]
 rw[show 240 - i - (i+1 - i)=240 - (i+1) from by omega,List.map_append,List.map_replicate,List.map_replicate,List.replicate_succ',List.append_assoc]
theorem Ye {n:Nat} (h:16≤n∧n≤1024):(BZ (n:Int) 1030 128 2).Ok ((1200:Nat):Int):=
 Sup.ok_mk (by show 0≤(2:Int)∧(2:Int)≤1099511627776;omega) (by show 0≤(1:Int)∧(1:Int)≤1099511627776;omega) (by show 16≤(n:Int)∧(n:Int)≤1024;omega) (by show 2+(n:Int)≤1030∧(1030:Int)≤1099511627776;omega) (by show 64≤(128:Int)∧(128:Int)≤1099511627776;omega) (by show 0≤(0:Int)∧(0:Int)<128;omega) (by show 0≤(1:Int)∧(1:Int)≤1099511627776;omega) (by show (1030:Int)≤((1200:Nat):Int) - 128∧(128:Int)≤((1200:Nat):Int);omega)
theorem QY {n:Nat} {bs:List UInt8} (hbs:bs.length=256) {M:Nat→Pg} (hM:M=D5 (fun _=>noPg) (some (gF n (bs.take 240) (manyN n),1+manyN n))):M 0=⟨1,bs.take 240⟩∧∀ i,i<manyN n→M (1+i)=CN (C1 (manyN n+1)) n i:=by
 subst hM
 refine ⟨rfl,fun i hi=> ?_⟩
 simp only[D5,gF]
 rw[if_neg (by omega),if_pos (by omega),show 1+i - 1=i by omega];rfl
def Iu (n:Nat):TB:=⟨fun _=>none,C1 (manyN n+1),[]⟩
theorem KN (p:Nat):∀ n,refs (fun _=>none) p n=0
 | 0=>rfl
 | n+1=>by simp only[refs,KN p n];rfl
theorem We (n:Nat) (M:Nat→Pg):Rel n M (Iu n).N (Iu n).C (Iu n).R:=
 ⟨fun p c h=>(by cases h),⟨fun p h1 h2=>(by show C1 (manyN n+1) p=_;unfold C1;rw[if_neg (by omega)];simp[Iu,KN]),fun p h=>(by cases h),fun q c h=>(by cases h),fun q d h=>(by cases h),fun q d h=>(by cases h)⟩⟩
theorem Wf (c:Int) (N:Nat) (hc: -9223372036854775808≤c∧c≤9223372036854775807) (hN:0<N∧N≤1099511627776):Cn prog 17 [Iv_ c,Iv_ (N:Int)] [] (fun v Γ=>v=Iv_ (pkI c N:Int)∧Γ=[]):=by
 intro z R w H;replace H:=H.l0;refine Ad func17 rfl ntmps17 rfl (Z0 12 [0] rfl (Af rfl (fun h1=> ?_) (fun h1=> ?_)))
 ·refine Z1 3 [] [c+1] rfl (by omega) (Ab rfl (Nn rfl rfl (r:= -(c+1)) (by omega) (by omega)) (Zc 7 rfl (Ab rfl (Ow rfl rfl rfl (by omega)) ?_)));have hm1:=Int.tmod_lt_of_pos (-(c+1)) (by omega:(0:Int)<(N:Int))
  have hm2:=Int.tmod_nonneg (N:Int) (show 0≤ -(c+1) by omega)
  refine Zc 4 rfl (Zr rfl ?_);have hv:(-(c+1)).tmod (N:Int)=(pkI c N:Int):=by unfold pkI;rw[if_pos (by omega)];omega
  exact ⟨_,⟨congrArg Iv_ hv,rfl⟩,H⟩
 ·refine Zc 6 rfl (Ab rfl (Ow rfl rfl rfl (by omega)) ?_);have hm1:=Int.tmod_lt_of_pos c (by omega:(0:Int)<(N:Int))
  have hm2:=Int.tmod_nonneg (N:Int) (show 0≤c by omega)
  refine Zc 4 rfl (Zr rfl ?_);have hv:c.tmod (N:Int)=(pkI c N:Int):=by unfold pkI;rw[if_neg (by omega)];omega
  exact ⟨_,⟨congrArg Iv_ hv,rfl⟩,H⟩
theorem Yf (fl:Int):Cn prog 29 [Iv_ fl] [] (fun v Γ=>∃ b,v= .agg #[Iv_ 5,.slice (some ⟨b,0,none⟩) 240 240]∧Γ=[blk b ((FU 5 fl).body.map u8) 5]):=by
 intro z R w H;replace H:=H.l0;refine Ad func29 rfl ntmps29 rfl (Za 2 [] H rfl ?_);intro b1 w H;refine Zc 4 rfl (AO rfl (FD (k:=240) H rfl (by kernel_rfl) CZ rfl rfl rfl (by omega)) ?_);rintro _ w ⟨b2,rfl,H⟩;replace H:=H.l2;refine Zc 10 rfl ?_;refine AH (σ:=Nat) (fun i=>[(4,Iv_ (i:Int)),(0,Iv_ fl),(2,Pt_ b1),(3,.slice (some ⟨b2,0,none⟩) 240 240)])
   (fun i w=>Sep z (blk b2 ((List.replicate i (E4 fl)++List.replicate (240 - i) (0:UInt8)).map u8) 5::blk b1 [Iv_ 0,.slice none 0 0] 62::R) w∧(i≤240)) (fun i=>240 - i) 0
   (fun _ hF=>(hF.co rfl (by go_num) (hF.all rfl))) ⟨(by simpa [u8] using H),by omega⟩ ?_
 clear H;rintro i w ⟨H',hI⟩;have H:=H'.l2;have hi:=hI;clear hI
 refine Z0 9 [0] rfl (Af rfl (fun h1=> ?_) (fun h1=> ?_))
 ·refine Zc 8 rfl (Ab rfl (OA rfl (by kernel_rfl) rfl) (Z1 1 [1,i,i] [] rfl (by omega) (AC rfl rfl (Ai 0 H rfl rfl rfl rfl (vs:=[u8 (E4 fl)]) rfl (by simp[u8,u32,Value.oneCell']) (by kernel_rfl) (by simp;omega) (out:=((List.replicate (i+1) (E4 fl)++List.replicate (240 - (i+1)) (0:UInt8)).map u8)) (QX i _ _ (by omega))) ?_)));rintro w H;replace H:=H.l2;refine Z1 8 [] [(i:Int)+1] rfl (by omega) (gf ?_);intro _ hF;refine ⟨(i+1),(hF.co rfl (by go_num) (hF.all rfl)),⟨H,?_⟩,?_⟩
  ·omega
  ·omega
 ·obtain rfl:i=240:=by omega
  refine Zc 2 rfl (gx (Z4 10 [1] H rfl ?_));intro w H;refine Zl [1,2] H rfl ?_;rw[show (List.replicate 240 (E4 fl)++List.replicate (240 - 240) (0:UInt8)).map u8=(FU 5 fl).body.map u8 from by simp[FU]] at H;exact ⟨_,⟨b2,rfl,rfl⟩,H.perm 2 [0] rfl rfl⟩
set_option maxHeartbeats 2000000 in
theorem MU (n:Nat) (hn:16≤n∧n≤1024) (Tb:Ae) (hT:GT Tb):Cn prog 9 [Iv_ (n:Int)] [Tb] (fun v Γ=>∃ pp:Nat,v=Pt_ pp∧Γ=[trA Tb pp 6 n (Iu n) none]):=by
 intro z R w H;replace H:=H.l1;refine Ad func9 rfl ntmps9 rfl (Zc 7 rfl (Ar rfl (call31 _) (Xr 1200) H ?_));rintro _ w _ (⟨hn_,rfl,rfl⟩|⟨_,pd,rfl,rfl⟩) H'
 ·exact absurd (by omega) hn_
 ·have H:=H'.l2;refine Z0 19 [4] rfl (Ar rfl (call32 _) (QM _ 1200 n _ _ hn (Ye (by omega))) H ?_);rintro _ w _ ⟨D2,G2,bs,hbs,hO,hcl,hge,hdn,hpg,hM,rfl,rfl⟩ H;refine Z0 10 [4] rfl (Ar rfl (call33 _) (QI _ _ _ _ _ _ hO hcl hge (by omega)) H ?_);rintro _ w _ ⟨ps,D3,got,hgd3,fi3,hn3,rfl,rfl⟩ H;replace H:=H.l2;have hM2:pgMap (ov got) G2.B=G2.M:=by rw[hgd3];rfl
  obtain ⟨hc0,hcp⟩:=QY (n:=n) hbs (hM2.trans hM);refine Z0 24 [4] rfl (Ar rfl (call34 _) (VM _ _ _ _ 6 n (C1 (manyN n+1)) fi3 hn hpg (bs.take 240) hc0 hcp (fun k=>Pa _ k) (fun p hp=>by unfold C1;rw[if_pos (by omega)])) H ?_);rintro _ w _ ⟨pp,pc,bn,m,pa,rfl,rfl⟩ H;refine Z0 24 [4] rfl (Zr rfl ?_);have H8:=(H.pick 7 [1,0,2,3,4,5,6] rfl).toPo (X:=⟨ps,pd,pc,bn,m,pa,D3,(NX G2.x (pgMap (ov got) G2.B)),CU,[],0,Bq,Tb⟩) (mb:=6) (n:=n) (M0:=pgMap (ov got) G2.B) (C0:=C1 (manyN n+1)) (t:=none) ⟨hn,fi3,hpg,⟨hT,rfl⟩,fun p _=>rfl,hcp,fun k=>Pa _ k,fun p hp=>(by unfold C1;rw[if_pos (by omega)]),fun _=>⟨rfl,rfl⟩,fun _ e=>(by cases e)⟩ rfl
  exact ⟨_,⟨pp,rfl,rfl⟩,Sep.toTr0 (o:=Iu n) H8 (We n _)⟩
end
section
open Go.RowKit
def cutZ (z:Nat) (ao:Option Addr) (c p:Nat):Option Addr:=if c=p then ao else ao.map (·.add (p * z))
theorem rdH.cutZ {z:Nat} {ao:Option Addr} {n c p m:Nat} {xs:List Value} {h:Hp} (r:rdH z (.slice ao n c) n xs h) (hz:0<z) (h1:p+m≤n) (h2:n≤c):rdH z (.slice (YtickmpiipomncaaGreatDoor.cutZ z ao c p) m (c - p)) m ((xs.drop (p * z)).take (m * z)) h:=by
 obtain ⟨ao',c',e,q1,q2,q3,q4⟩:=r
 cases e
 have hmz:p * z+m * z≤n * z:=by rw[←Nat.add_mul];exact Nat.mul_le_mul_right _ h1
 refine ⟨_,_,rfl,by omega,by omega,by simp;omega,fun j u hj=> ?_⟩
 have hjm:j<m * z:=by
  have:=(List.getElem?_eq_some_iff.1 hj).1
  simp at this;omega
 obtain ⟨b,o,rfl,hc⟩:=q4 (p * z+j) u (by
  rw[List.getElem?_take,if_pos hjm,List.getElem?_drop] at hj
  exact hj)
 have hm0:0<m:=Nat.pos_of_ne_zero fun e=>by subst e;omega
 refine ⟨b,o+p * z,?_,by rw[Nat.add_assoc];exact hc⟩
 unfold YtickmpiipomncaaGreatDoor.cutZ
 rw[if_neg (by omega)]
 simp only[Option.map_some]
 unfold Addr.add;split
 ·rename_i h0;simp[h0]
 ·rfl
theorem rdH.slcapZ {z:Nat} {ao:Option Addr} {n c:Nat} {xs:List Value} {h:Hp} (r:rdH z (.slice ao n c) n xs h):n≤c∧c≤9223372036854775807∧xs.length=n * z:=by
 obtain ⟨ao',c',e,q1,q2,q3,q4⟩:=r
 cases e;exact ⟨q1,q2,q3⟩
section
variable {P:Program} {C:World→Prop} {o:Oper} {n:Nat} {ds:List Deferred} {L:List (Nat×Value)} {x y:Operand}
theorem G8 {z:Nat} {t:TypeId} {lo hi:Option Operand} {ao:Option Addr} {l c p q l' c':Nat} (ho:o.op= .slice t x lo hi none) (ht:CA P t=some z)
  (hx:ev L x=some (.slice ao l c)) (hlo:(lo=none∧p=0)∨∃ y k i,lo=some y∧ev L y=some (.int k i)∧i=(p:Int)) (hhi:(hi=none∧q=l)∨∃ y k i,hi=some y∧ev L y=some (.int k i)∧i=(q:Int)) (hpq:p≤q) (hqc:q≤c)
  (h2:q - p=l') (h3:c - p=c'):Am P C n ds L o (.slice (cutZ z ao c p) l' c'):=by
 subst h2 h3
 exact HI ho ht hx hlo hhi hpq hqc
end
def AX (L:List E):List Value:=L.flatMap fun e=>[.int .i64 e.1,.int .i64 (e.2:Int)]
theorem Fx (A B:List E):AX (A++B)=AX A++AX B:=by simp[AX]
theorem Ca:∀ {L:List E} {j:Nat} {e:E},L[j]? =some e→(AX L)[j * 2]? =some (Iv_ e.1)∧(AX L)[j * 2+1]? =some (Iv_ (e.2:Int))
 | x::L,0,e,h=>by simp at h;subst h;exact ⟨rfl,rfl⟩
 | x::L,j+1,e,h=>by
  have:=Ca (L:=L) (j:=j) (by simpa using h)
  have e1:AX (x::L)=Iv_ x.1::Iv_ (x.2:Int)::AX L:=rfl
  rw[e1,show (j+1) * 2=j * 2+1+1 by omega]
  simp only[List.getElem?_cons_succ]
  exact this
theorem MV:∀ (L:List E) (p:Nat),(AX L).drop (p * 2)=AX (L.drop p)
 | L,0=>by simp
 | [],p+1=>by simp[AX]
 | x::L,p+1=>by
  have e1:AX (x::L)=Iv_ x.1::Iv_ (x.2:Int)::AX L:=rfl
  rw[e1,show (p+1) * 2=p * 2+1+1 by omega,List.drop_succ_cons,List.drop_succ_cons,List.drop_succ_cons];exact MV L p
theorem MW:∀ (L:List E) (p:Nat),(AX L).take (p * 2)=AX (L.take p)
 | L,0=>by simp[AX]
 | [],p+1=>by simp[AX]
 | x::L,p+1=>by
  have e1:AX (x::L)=Iv_ x.1::Iv_ (x.2:Int)::AX L:=rfl
  rw[e1,show (p+1) * 2=p * 2+1+1 by omega,List.take_succ_cons,List.take_succ_cons,List.take_succ_cons,MW L p];rfl
theorem Ii (L:List E):∀ c∈AX L,c.oneCell'=true:=fun c hc=>by
 simp only[AX,List.mem_flatMap] at hc
 obtain ⟨e,_,he⟩:=hc
 simp at he;rcases he with rfl|rfl<;>rfl
theorem rdH.cutE {ao:Option Addr} {n c p m:Nat} {L:List E} {h:Hp} (r:rdH 2 (.slice ao n c) n (AX L) h) (h1:p+m≤n) (h2:n≤c):rdH 2 (.slice (YtickmpiipomncaaGreatDoor.cutZ 2 ao c p) m (c - p)) m (AX ((L.drop p).take m)) h:=by
 have:=r.cutZ (by omega) h1 h2
 rw[MV,MW] at this;exact this
def mpA (pm:Nat) (L:List E):Ae:=fun h=>∃ v,True∧seps [blk pm [v] 76,grow 55 2 v L.length (AX L)] h
theorem Sep.mp {z w:World} {Γ:List Ae} {pm:Nat} {L:List E} (H:Sep z (mpA pm L::Γ) w):∃ v,Sep z (YtickmpiipomncaaGreatDoor.blk pm [v] 76::YtickmpiipomncaaGreatDoor.grow 55 2 v L.length (AX L)::Γ) w:=by
 obtain ⟨v,_,H⟩:=H.into (p:=fun _=>True) (As:=fun v=>[YtickmpiipomncaaGreatDoor.blk pm [v] 76,YtickmpiipomncaaGreatDoor.grow 55 2 v L.length (AX L)]) (fun _ q=>q)
 exact ⟨v,H⟩
theorem Sep.toMp {z w:World} {Γ:List Ae} {pm:Nat} {v:Value} {L:List E} (H:Sep z (YtickmpiipomncaaGreatDoor.blk pm [v] 76::YtickmpiipomncaaGreatDoor.grow 55 2 v L.length (AX L)::Γ) w):Sep z (mpA pm L::Γ) w:=H.made 2 (fun h q=>⟨v,trivial,q⟩)
theorem KO {L:List E} {i:Nat} {e:E} (k:Int) (h:L[i]? =some e):delE k (L.take (i+1))=if e.1=k then delE k (L.take i) else delE k (L.take i)++[e]:=by
 have h1:L.take (i+1)=L.take i++[e]:=by rw[List.take_add_one,h];rfl
 rw[h1,G5]
 split
 ·rename_i h2;simp[delE,h2]
 ·rename_i h2;simp[delE,h2]
theorem Tm {L:List E} (hs:Srt L) (key:Int) (val:Nat):putE key val (delE key L)=putE key val L:=by
 rcases key_split hs key with ⟨X,v,Y,rfl,h1⟩|⟨h0,X,Y,rfl,h1,h2⟩
 ·rw[Oa hs,Dl _ h1]
  have h3:∀ e∈Y,key<e.1:=fun e he=>(Srt.cons.1 (Srt.app.1 hs).2.1).1 e he
  exact putE_new h1 h3
 ·rw[GB (fun e he=>by
   rcases List.mem_append.1 he with q|q
   ·have:=h1 e q;omega
   ·have:=h2 e q;omega)]
theorem QZ {L:List E} (hs:Srt L) (key:Int) (val:Nat) {i:Nat} (h1:∀ (j:Nat) (e:E),j<i→(delE key L)[j]? =some e→e.1<key) (h2:∀ e,(delE key L)[i]? =some e→key≤e.1):
  putE key val L=(delE key L).take i++(key,val)::(delE key L).drop i:=by
 have hs':Srt (delE key L):=List.Pairwise.sublist List.filter_sublist hs
 have hk:∀ e∈delE key L,e.1≠key:=fun e he=>by simpa [delE] using (List.mem_filter.1 he).2
 rw[←Tm hs]
 refine (congrArg (putE key val) (List.take_append_drop i _).symm).trans (putE_new (fun e he=> ?_) (fun e he=> ?_))
 ·obtain ⟨j,hj⟩:=List.getElem?_of_mem he
  rw[List.getElem?_take] at hj
  split at hj
  ·exact h1 j e (by assumption) hj
  ·cases hj
 ·have h3:=hk e (List.mem_of_mem_drop he)
  have h4:Srt ((delE key L).drop i):=List.Pairwise.sublist (List.drop_sublist _ _) hs'
  cases hd:(delE key L).drop i with
  | nil=>rw[hd] at he;cases he
  | cons x t=>
   rw[hd] at he h4
   have h5:key≤x.1:=h2 x (by
    have:((delE key L).drop i)[0]? =some x:=by rw[hd];rfl
    rwa[List.getElem?_drop,Nat.add_zero] at this)
   rcases List.mem_cons.1 he with rfl|q
   ·omega
   ·have:=(Srt.cons.1 h4).1 e q;omega
theorem Oj (pm:Nat) (key:Int) (L:List E) (hL:L.length≤1048576):Cn prog 26 [Pt_ pm,Iv_ key] [mpA pm L] (fun v Γ=>∃ b:Bool,v= .bool b∧Γ=[mpA pm (delE key L)]):=by
 intro z R w H;replace H:=H.l1;refine Ad func26 rfl ntmps26 rfl (Zc 1 rfl ?_);obtain ⟨v_,H⟩:=(H.pick 1 [0] rfl).mp;replace H:=H.l2;obtain ⟨ao,oc,rfl⟩:=H.says 1 rfl (fun h q=>q.rd.slc);have hcp_ao:=H.says 1 rfl (fun h q=>q.rd.slcapZ)
 have H:Sep z (blk pm [.slice ao L.length oc] 76::grow 55 2 (.slice ao L.length oc) L.length (AX L)::R) w:=H
 refine Zc 11 rfl ?_;replace H:=(H.nilg 55 2).l3
 refine Zc 5 rfl ?_;refine AH (σ:=Nat×Value) (fun ⟨i,u⟩=>[(6,Iv_ (i:Int)),(5,u),(0,Pt_ pm),(1,Iv_ key),(4,.bool false)])
   (fun ⟨i,u⟩ w=>Sep z (grow 55 2 u ((delE key (L.take i)).length) (AX (delE key (L.take i)))::blk pm [.slice ao L.length oc] 76::grow 55 2 (.slice ao L.length oc) L.length (AX L)::R) w∧(i≤L.length)) (fun ⟨i,u⟩=>L.length - i) ⟨0,.slice none 0 0⟩
   (fun _ hF=>(hF.co rfl (by go_num) (hF.co rfl (by go_num) (hF.all rfl)))) ⟨H,by omega⟩ ?_
 clear H;rintro ⟨i,u⟩ w ⟨H',hI⟩;dsimp only at hI H' ⊢
 have H:=H'.l3;have su:=H.says 0 rfl (fun h q=>q.slc)
 have hi:=hI;clear hI
 refine Z2 12 [0,1,0,0] H rfl (Af rfl (fun h1=> ?_) (fun h1=> ?_))
 ·refine Zc 5 rfl ?_;obtain ⟨e,he⟩:∃ e,L[i]? =some e:=⟨_,List.getElem?_eq_getElem (by omega)⟩;have hat0:=(H.rd 2 rfl (fun h q=>q.rd)).at (Ca he).1
  have hat1:=(H.rd 2 rfl (fun h q=>q.rd)).at (Ca he).2
  have hdl:(delE key (L.take i)).length≤i:=Nat.le_trans (List.length_filter_le _ _) (by rw[List.length_take];omega)
  refine Z2 6 [0,1,0] H rfl (Ab rfl (Ao rfl (z:=2) (j:=i) (r:=i * 2) (by kernel_rfl) rfl rfl rfl (by omega) hat0 (by omega)) (Ab rfl (ER rfl (k:=0) (r:=i * 2) (by kernel_rfl) rfl hat0 rfl) (Ab rfl (Az rfl rfl (by kernel_rfl) (Av hat0)) (Z0 4 [0] rfl (Af rfl (fun h2=> ?_) (fun h2=> ?_))))))
  ·refine Z2 7 [0,1,0] H rfl (Ab rfl (Ao rfl (z:=2) (j:=i) (r:=i * 2) (by kernel_rfl) rfl rfl rfl (by omega) hat0 (by omega)) (Ab rfl (Co rfl rfl (vs:=[Iv_ e.1,Iv_ (e.2:Int)]) (by kernel_rfl) (by simp) (Av (fun k u hk=>by rcases k with _|_|k<;>simp at hk<;>subst hk<;>assumption))) (AO rfl (AI H rfl (by kernel_rfl) AP rfl (by decide) (by decide) (out:=[Iv_ e.1,Iv_ (e.2:Int)]) (by kernel_rfl)) ?_)));rintro _ w ⟨b1,rfl,H⟩;replace H:=H.l4;refine AO rfl (AY 1 H rfl rfl (by kernel_rfl) AP rfl rfl (H.rd 0 rfl (fun h q=>q.rd (by omega) (by omega) (by simp) rfl)) (by simp[Value.oneCell']) (by omega)) ?_;rintro v2 w H';have H':Sep z (blk b1 [Iv_ e.1,Iv_ (e.2:Int)] 55::grow 55 2 v2 ((delE key (L.take i)).length+1) (AX (delE key (L.take i))++[Iv_ e.1,Iv_ (e.2:Int)])::blk pm [.slice ao L.length oc] 76::grow 55 2 (.slice ao L.length oc) L.length (AX L)::R) w:=H'
   have ev2:(AX (delE key (L.take i))++[Iv_ e.1,Iv_ (e.2:Int)]:List Value)=AX (delE key (L.take i)++[e]):=by rw[Fx];rfl
   rw[ev2] at H';have H:=H'.l4;have sv2:=H.says 1 rfl (fun h q=>q.slc)
   refine Z1 9 [] [(i:Int)+1] rfl (by omega) ?_;replace H:=H.d;refine gf ?_;intro _ hF;refine ⟨⟨i+1,v2⟩,(hF.co rfl (by go_num) (hF.all rfl)),⟨(by rw[KO key he,if_neg (by omega),List.length_append];exact H),?_⟩,?_⟩
   ·omega
   ·(dsimp only;omega)
  ·refine Z1 8 [] [(i:Int)+1] rfl (by omega) (gf ?_);intro _ hF;refine ⟨⟨i+1,u⟩,(hF.co rfl (by go_num) (hF.all rfl)),⟨(by rw[KO key he,if_pos (by omega)];exact H),?_⟩,?_⟩
   ·omega
   ·(dsimp only;omega)
 ·refine Zc 2 rfl (gx (Zc 5 rfl (Ab rfl (CI rfl (sz:=2) (by kernel_rfl) rfl su) (Z2 15 [0,1,0,0,0] H rfl (AC rfl rfl (JC 1 H rfl rfl rfl rfl su.cells su.one (by kernel_rfl)) ?_)))));rintro w H;replace H:=H.l3;refine Zc 9 rfl (Zr rfl ?_);rw[show i=L.length by omega,List.take_length] at H;exact ⟨_,⟨_,rfl,rfl⟩,(H.pick 3 [1,0] rfl).toMp⟩
theorem Yg (pm:Nat) (key:Int) (val:Nat) (L:List E) (hL:L.length≤1048576) (hs:Srt L):Cn prog 35 [Pt_ pm,Iv_ key,Iv_ (val:Int)] [mpA pm L] (fun v Γ=>v= .tuple #[]∧Γ=[mpA pm (putE key val L)]):=by
 intro z R w H;replace H:=H.l1;have hdl:(delE key L).length≤L.length:=List.length_filter_le _ _
 refine Ad func35 rfl ntmps35 rfl (Zc 4 rfl (Ar rfl (call26 _) (Oj _ _ _ hL) H ?_));rintro _ w _ ⟨bb,rfl,rfl⟩ H;refine Zc 3 rfl ?_;obtain ⟨v_,H⟩:=(H.pick 1 [0] rfl).mp;replace H:=H.l2;obtain ⟨ao,oc,rfl⟩:=H.says 1 rfl (fun h q=>q.rd.slc);have hcp_ao:=H.says 1 rfl (fun h q=>q.rd.slcapZ)
 have H:Sep z (blk pm [.slice ao ((delE key L).length) oc] 76::grow 55 2 (.slice ao ((delE key L).length) oc) ((delE key L).length) (AX (delE key L))::R) w:=H
 refine Zc 6 rfl ?_;refine AH (σ:=Nat) (fun i=>[(6,Iv_ (i:Int)),(0,Pt_ pm),(1,Iv_ key),(2,Iv_ (val:Int))])
   (fun i w=>Sep z (blk pm [.slice ao ((delE key L).length) oc] 76::grow 55 2 (.slice ao ((delE key L).length) oc) ((delE key L).length) (AX (delE key L))::R) w∧(i≤(delE key L).length∧∀ (j:Nat) (e:E),j<i→(delE key L)[j]? =some e→e.1<key)) (fun i=>(delE key L).length - i) 0
   (fun _ hF=>(hF.co rfl (by go_num) (hF.all rfl))) ⟨H,⟨Nat.zero_le _,fun j e h=>by omega⟩⟩ ?_
 clear H;rintro i w ⟨H',hI⟩;have H:=H'.l2;obtain ⟨hi,hall⟩:=hI;refine Z2 11 [0,0,0,0] H rfl (Ak 18 rfl (fun h1=> ?_) (fun h1=> ?_))
 ·have hlt9:=h1
  obtain ⟨e,he⟩:∃ e,(delE key L)[i]? =some e:=⟨_,List.getElem?_eq_getElem (by omega)⟩;have hat0:=(H.rd 1 rfl (fun h q=>q.rd)).at (Ca he).1
  refine Z2 5 [0,0,0] H rfl (Ab rfl (Ao rfl (z:=2) (j:=i) (r:=i * 2) (by kernel_rfl) rfl rfl rfl (by omega) hat0 (by omega)) (Ab rfl (ER rfl (k:=0) (r:=i * 2) (by kernel_rfl) rfl hat0 rfl) (Ab rfl (Az rfl rfl (by kernel_rfl) (Av hat0)) (Z0 5 [0] rfl (Af rfl (fun h2=> ?_) (fun h2=> ?_))))))
  ·refine Z1 9 [] [(i:Int)+1] rfl (by omega) (gf ?_);intro _ hF;refine ⟨(i+1),(hF.co rfl (by go_num) (hF.all rfl)),⟨H,?_⟩,?_⟩
   ·refine ⟨by omega,fun j e9 hj he9=> ?_⟩;rcases Nat.lt_or_ge j i with q|q
    ·exact hall j e9 q he9
    ·obtain rfl:j=i:=by omega
     rw[he] at he9;cases he9;omega
   ·omega
  ·refine Zc 2 rfl (gx (Z2 15 [0,0,0] H rfl (Ab rfl (G8 (z:=2) (p:=0) (q:=i) (l':=i) (c':=oc) rfl (by kernel_rfl) rfl (.inl ⟨rfl,rfl⟩) (.inr ⟨_,_,_,rfl,rfl,rfl⟩) (by omega) (by omega) rfl rfl) ?_)));replace H:=(H.nilg 55 2).l3
   refine AO rfl (AY 0 H rfl rfl (by kernel_rfl) AP rfl rfl (H.rd 2 rfl (fun h q=>q.rd.cutE (by omega) (by omega))) (Ii _) (by omega)) ?_;rintro v1 w H;replace H:=H.l3;have sv1:=H.says 0 rfl (fun h q=>q.slc)
   refine Zc 9 rfl (AO rfl (AI H rfl (by kernel_rfl) AP rfl (by decide) (by decide) (out:=[Iv_ key,Iv_ (val:Int)]) (by kernel_rfl)) ?_);rintro _ w ⟨b2,rfl,H⟩;replace H:=H.l4;refine AO rfl (AY 1 H rfl rfl (by kernel_rfl) AP rfl rfl (H.rd 0 rfl (fun h q=>q.rd (by omega) (by omega) (by simp) rfl)) (by simp[Value.oneCell']) (by omega)) ?_;rintro v3 w H;replace H:=H.l4;have sv3:=H.says 1 rfl (fun h q=>q.slc)
   refine Z2 11 [0,2,0] H rfl (Ab rfl (G8 (z:=2) (p:=i) (q:=(delE key L).length) (l':=((delE key L).length) - i) (c':=oc - i) rfl (by kernel_rfl) rfl (.inr ⟨_,_,_,rfl,rfl,rfl⟩) (.inl ⟨rfl,rfl⟩) (by omega) (by omega) rfl rfl) (AO rfl (AY 1 H rfl rfl (by kernel_rfl) AP rfl rfl (H.rd 3 rfl (fun h q=>q.rd.cutE (by omega) (by omega))) (Ii _) (by omega)) ?_));rintro v4 w H;replace H:=H.l4;have sv4:=H.says 1 rfl (fun h q=>q.slc)
   refine Z0 8 [0] rfl (AC rfl rfl (JC 2 H rfl rfl rfl rfl sv4.cells sv4.one (by kernel_rfl)) ?_);rintro w H;replace H:=H.l4;refine Zc 1 rfl (Zf rfl ?_);have ep:=QZ hs key val hall (fun e9 he9=>by first|(have:=(List.getElem?_eq_some_iff.1 he9).1;omega)|(rw[he] at he9;cases he9;omega))
   rw[show (0+i+1+((delE key L).length - i):Nat)=(putE key val L).length from by rw[ep];simp only[List.length_append,List.length_take,List.length_cons,List.length_drop];omega,show ([]++AX (((delE key L).drop 0).take i)++List.take (1 * 2) (List.drop 0 [Iv_ key,Iv_ (val:Int)])++AX (((delE key L).drop i).take ((delE key L).length - i)):List Value)=AX (putE key val L) from by rw[ep,Fx,List.drop_zero,List.take_of_length_le (l:=(delE key L).drop i) (by rw[List.length_drop];omega)];simp[AX]] at H;exact ⟨_,⟨rfl,rfl⟩,(H.pick 4 [2,1] rfl).toMp⟩
 ·refine Zc 16 rfl (gx (Z2 15 [0,0,0] H rfl (Ab rfl (G8 (z:=2) (p:=0) (q:=i) (l':=i) (c':=oc) rfl (by kernel_rfl) rfl (.inl ⟨rfl,rfl⟩) (.inr ⟨_,_,_,rfl,rfl,rfl⟩) (by omega) (by omega) rfl rfl) ?_)));replace H:=(H.nilg 55 2).l3
  refine AO rfl (AY 0 H rfl rfl (by kernel_rfl) AP rfl rfl (H.rd 2 rfl (fun h q=>q.rd.cutE (by omega) (by omega))) (Ii _) (by omega)) ?_;rintro v5 w H;replace H:=H.l3;have sv5:=H.says 0 rfl (fun h q=>q.slc)
  refine Zc 9 rfl (AO rfl (AI H rfl (by kernel_rfl) AP rfl (by decide) (by decide) (out:=[Iv_ key,Iv_ (val:Int)]) (by kernel_rfl)) ?_);rintro _ w ⟨b6,rfl,H⟩;replace H:=H.l4;refine AO rfl (AY 1 H rfl rfl (by kernel_rfl) AP rfl rfl (H.rd 0 rfl (fun h q=>q.rd (by omega) (by omega) (by simp) rfl)) (by simp[Value.oneCell']) (by omega)) ?_;rintro v7 w H;replace H:=H.l4;have sv7:=H.says 1 rfl (fun h q=>q.slc)
  refine Z2 11 [0,2,0] H rfl (Ab rfl (G8 (z:=2) (p:=i) (q:=(delE key L).length) (l':=((delE key L).length) - i) (c':=oc - i) rfl (by kernel_rfl) rfl (.inr ⟨_,_,_,rfl,rfl,rfl⟩) (.inl ⟨rfl,rfl⟩) (by omega) (by omega) rfl rfl) (AO rfl (AY 1 H rfl rfl (by kernel_rfl) AP rfl rfl (H.rd 3 rfl (fun h q=>q.rd.cutE (by omega) (by omega))) (Ii _) (by omega)) ?_));rintro v8 w H;replace H:=H.l4;have sv8:=H.says 1 rfl (fun h q=>q.slc)
  refine Z0 8 [0] rfl (AC rfl rfl (JC 2 H rfl rfl rfl rfl sv8.cells sv8.one (by kernel_rfl)) ?_);rintro w H;replace H:=H.l4;refine Zc 1 rfl (Zf rfl ?_);have ep:=QZ hs key val hall (fun e9 he9=>by first|(have:=(List.getElem?_eq_some_iff.1 he9).1;omega)|(rw[he] at he9;cases he9;omega))
  rw[show (0+i+1+((delE key L).length - i):Nat)=(putE key val L).length from by rw[ep];simp only[List.length_append,List.length_take,List.length_cons,List.length_drop];omega,show ([]++AX (((delE key L).drop 0).take i)++List.take (1 * 2) (List.drop 0 [Iv_ key,Iv_ (val:Int)])++AX (((delE key L).drop i).take ((delE key L).length - i)):List Value)=AX (putE key val L) from by rw[ep,Fx,List.drop_zero,List.take_of_length_le (l:=(delE key L).drop i) (by rw[List.length_drop];omega)];simp[AX]] at H;exact ⟨_,⟨rfl,rfl⟩,(H.pick 4 [2,1] rfl).toMp⟩
end
section
open Go.RowKit
variable {Tb:Ae}
variable {z w:World} {Γ:List Ae} {pp mb n:Nat} {o:TB} {t t':TS} {R:List Nat} {T:TT}
theorem Wg (pp mb n:Nat) (o:TB) (t:TS) (R:List Nat) (fl:Int) (b:Nat) (hk:t.k<40):
  Cn prog 28 [Pt_ pp,.agg #[Iv_ 5,.slice (some ⟨b,0,none⟩) 240 240]] [trA Tb pp mb n o (some (t,R)),blk b ((FU 5 fl).body.map u8) 5] (fun v Γ=>(cnt t.F 0 1024=0∧v= .tuple #[Iv_ 0,Iv_ 20]∧Γ=[trA Tb pp mb n o (some (t,R)),blk b ((FU 5 fl).body.map u8) 5])∨
   ∃ (a:Nat) (t2:TS),(t.N a=none∧t2.N a=some (.dt (FU 5 fl).body)∧(∀ q d,t2.N q=some (.nd d)→a∉vals d.es)∧(∀ h c lo hi m L,Tr t.N h c lo hi m L→Tr t2.N h c lo hi m L)∧t2.k≤t.k+1∧cnt t.F 0 1024=cnt t2.F 0 1024+1)∧v= .tuple #[Iv_ (a:Int),Iv_ 0]∧Γ=[trA Tb pp mb n o (some (t2,a::R)),blk b ((FU 5 fl).body.map u8) 5]):=by
 intro z R' w H
 have K:=H.says 0 rfl (fun h a=>trA.k a)
 have I:TInv n (manyN n+1) t.N t.C R:=K.i
 refine Ret.mono (Cn.at (ML pp mb n o t R R (FU 5 fl) (Yd fl (by omega)) _ _ (fun h q=>q.rd (by omega) (by omega) (by simp[Oi]) (by simp only[Nat.mul_one,List.drop_zero];exact List.take_of_length_le (by rw[List.length_map,Oi];omega))) hk (some (.dt (FU 5 fl).body)) (fun q hq=>by cases hq;rfl) (fun a h1 h2 h3=>(I.freshD h3 ⟨h1,h2⟩).2.1)) H 2 [0,1] rfl rfl) ?_
 rintro v w' ⟨Γ',(⟨h0,rfl,rfl⟩|⟨a,F,k,⟨h1,h2,h3,h4,h5,h6,h7⟩,rfl,rfl⟩),H'⟩
 ·exact ⟨_,.inl ⟨h0,rfl,rfl⟩,H'⟩
 ·obtain ⟨f1,f2,f3⟩:=I.freshD (b:=(FU 5 fl).body) h2 ⟨h1.1,h1.2⟩
  refine ⟨_,.inr ⟨a,⟨_,_,F,k⟩,⟨f1,Bn _ _ _,fun q d hq=> ?_,fun h c lo hi m L q=>q.fup f3 (fun e=> ?_),h6,h7⟩,rfl,rfl⟩,H'⟩
  ·have hq:fup t.N a (some (.dt (FU 5 fl).body)) q=some (.nd d):=hq
   by_cases e:q=a
   ·subst e;rw[Bn] at hq;cases hq
   ·rw[AV _ _ e] at hq;exact f3 q d hq
  ·subst e;obtain ⟨d,hd⟩:=q.node;rw[f1] at hd;cases hd
structure LwI (n:Nat) (o:TB) (a:Nat) (L:List E) (Q:List Nat):Prop where
 n:n≤511
 q:Q.length≤100
 root:Root o.N a L
 nd:(vals L).Nodup
 r:o.R=BQ a++Q
theorem Root.low {N:Hm} {C:Nat→Nat} {f a:Nat} {L:List E} (I:TInv n f N C R) (h:Root N a L) (ha:a≠0) (hn:n≤511):∃ h,Tr N h a 0 1048576 (rootM h) L∧h≤4:=by
 rcases h with ⟨e,_⟩|⟨_,h,hT⟩
 ·exact absurd e ha
 ·exact ⟨h,hT,hT.low I (Nat.le_refl _) hn⟩
theorem Root.srt {N:Hm} {a:Nat} {L:List E} (h:Root N a L):Srt L∧Bt 0 1048576 L:=by
 rcases h with ⟨_,rfl⟩|⟨_,h,hT⟩
 ·exact ⟨by simp[Srt],by simp[Bt]⟩
 ·exact hT.srt
theorem Root.data {N:Hm} {a:Nat} {L:List E} (h:Root N a L):∀ e∈L,∃ b,N e.2=some (.dt b):=by
 rcases h with ⟨_,rfl⟩|⟨_,h,hT⟩
 ·simp
 ·exact hT.data
def Kp (N N':Hm) (Q:List Nat):Prop:=∀ c∈Q,∀ L,Root N c L→Root N' c L
theorem Kp.of {N N':Hm} {Q:List Nat} (h:∀ c∈Q,∀ h lo hi m L,Tr N h c lo hi m L→Tr N' h c lo hi m L):Kp N N' Q:=fun c hc L q=>by
 rcases q with q|⟨h0,h1,hT⟩
 ·exact .inl q
 ·exact .inr ⟨h0,h1,h c hc _ _ _ _ _ hT⟩
theorem Kp.trans {N N' N'':Hm} {Q:List Nat} (h:Kp N N' Q) (h2:Kp N' N'' Q):Kp N N'' Q:=fun c hc L q=>h2 c hc L (h c hc L q)
theorem MX {F G:Nat→Bool} (h:∀ q,F q=true→G q=true) (a:Nat):∀ n,cnt F a n≤cnt G a n
 | 0=>Nat.le_refl _
 | n+1=>by
  have:=MX h a n
  have h2:(F (a+n)).toNat≤(G (a+n)).toNat:=by
   cases e:F (a+n) with
   | false=>simp
   | true=>rw[h _ e];simp
  simp only[cnt];omega
theorem TrK.free {n:Nat} {o:TB} {t:TS} {R:List Nat} (K:TrK n o (some (t,R))):cnt t.F 0 1024≤cnt (BP n t.C) 0 1024:=
 MX (fun q hq=>by
  obtain ⟨h1,h2,_⟩:=K.fr q hq
  simp only[BP];exact decide_eq_true ⟨h1,h2⟩) 0 1024
theorem YY (pp mb n:Nat) (o:TB) (t:TS) (Q:List Nat) (a:Nat) (key:Int) (val:Nat) (b:List UInt8) (L:List E) (hR:Root t.N a L) (hn:n≤511) (hkk:0≤key∧key<1048576) (hvd:t.N val=some (.dt b)) (hnv:∀ q d,t.N q=some (.nd d)→val∉vals d.es) (hk:t.k≤20) (hb:Q.length≤100):
  Cn prog 30 [Pt_ pp,Iv_ (a:Int),Iv_ key,Iv_ (val:Int)] [trA Tb pp mb n o (some (t,val::(BQ a++Q)))] (fun v Γ=>(cnt t.F 0 1024≤10∧∃ s:TS×List Nat,v= .tuple #[Iv_ 0,Iv_ 20]∧Γ=[trA Tb pp mb n o (some s)])∨
   ∃ (t2:TS) (r:Nat),(St t t2 Q 11 16∧Root t2.N r (putE key val L)∧cnt t2.F 0 1024≤cnt (BP n t2.C) 0 1024)∧v= .tuple #[Iv_ (r:Int),Iv_ 0]∧Γ=[trA Tb pp mb n o (some (t2,BQ r++Q))]):=by
 intro z R' w H
 have K:=H.says 0 rfl (fun h a=>trA.k a)
 by_cases ha:a=0
 ·subst ha
  have hL:L=[]:=by rcases hR with ⟨_,e⟩|⟨e,_⟩;exact e;exact absurd rfl e
  subst hL
  refine Ret.mono (Cn.at (X4 pp mb n o t Q key val b hkk hvd (by omega)) H 1 [0] rfl rfl) ?_
  rintro v w' ⟨Γ',(⟨h0,s,rfl,rfl⟩|⟨t2,r,⟨h1,h2⟩,rfl,rfl⟩),H'⟩
  ·exact ⟨_,.inl ⟨by omega,s,rfl,rfl⟩,H'⟩
  ·have K2:=H'.says 0 rfl (fun h a=>trA.k a)
   have hr:r≠0:=by have:=(K2.i.rin r (by simp[Ci])).1;omega
   exact ⟨_,.inr ⟨t2,r,⟨h1.sub (fun p hp=>hp) (by omega) (by omega),.inr ⟨hr,0,h2⟩,K2.free⟩,rfl,by rw[DE hr];rfl⟩,H'⟩
 ·obtain ⟨h,hT,hh⟩:=hR.low K.i ha hn
  have H2:=H.mono 0 (B:=trA Tb pp mb n o (some (t,a::val::Q))) rfl (fun h q=>q.perm (by rw[DE ha];exact List.Perm.swap _ _ _))
  have hk3:t.k+3 * h+3<40:=by omega
  refine Ret.mono (Cn.at (X5 pp mb n o t Q h a (rootM h) key val L ⟨hT,hkk,by omega,by omega,⟨b,hvd⟩,hnv,hk3,by omega⟩) H2 1 [0] rfl rfl) ?_
  rintro v w' ⟨Γ',(⟨h0,s,rfl,rfl⟩|⟨t2,r,⟨h1,h2⟩,rfl,rfl⟩),H'⟩
  ·exact ⟨_,.inl ⟨by omega,s,rfl,rfl⟩,H'⟩
  ·have K2:=H'.says 0 rfl (fun h a=>trA.k a)
   have hr:r≠0:=by have:=(K2.i.rin r (by simp[Ci])).1;omega
   refine ⟨_,.inr ⟨t2,r,⟨h1.sub (fun p hp=>hp) (by omega) (by omega),?_,K2.free⟩,rfl,by rw[DE hr];rfl⟩,H'⟩
   rcases h2 with h2|h2
   ·exact root_of h2 (Nat.le_refl _) hr
   ·exact root_of h2 (by unfold rootM;rw[if_neg (by omega)];omega) hr
theorem Ph {L:List E} (hs:Srt L) {key:Int} {val:Nat} (hd:(vals L).Nodup) (hv:val∉vals L):(vals (putE key val L)).Nodup:=by
 rcases key_split hs key with ⟨X,v,Y,rfl,h1⟩|⟨h0,_⟩
 ·rw[Dl _ h1]
  rw[Bg,BA] at hd hv ⊢
  simp only[List.mem_append,List.mem_cons,not_or] at hv
  rw[List.nodup_append,List.nodup_cons] at hd ⊢
  obtain ⟨a,⟨b,c⟩,d⟩:=hd
  refine ⟨a,⟨hv.2.2,c⟩,fun x hx y hy=> ?_⟩
  rcases List.mem_cons.1 hy with rfl|hy
  ·exact fun e=>hv.1 (by rw[←e];exact hx)
  ·exact d x hx y (by simp[hy])
 ·rw[(F9 hs val h0).1.nodup_iff,List.nodup_cons];exact ⟨hv,hd⟩
theorem Tn {n f:Nat} {N:Hm} {C:Nat→Nat} (I:TInv n f N C R) (hf:1≤f) {L:List E} (hd:∀ e∈L,∃ b,N e.2=some (.dt b)):∀ e∈L,1≤e.2∧e.2<n:=fun e he=>by
 obtain ⟨b,hb⟩:=hd e he
 have:=I.nin _ _ hb;omega
theorem LwI.done {a r:Nat} {L L2:List E} {Q:List Nat} {o2:TB} (h:LwI n o a L Q) (hr:Root o2.N r L2) (hd:(vals L2).Nodup) (hR:o2.R=BQ r++Q):LwI n o2 r L2 Q:=⟨h.n,h.q,hr,hd,hR⟩
end
section
open Go.RowKit
variable {Tb:Ae}
end
section
open Go.RowKit
variable {Tb:Ae}
theorem T4 {P:Nat→Int→Int→List E→Prop} {es:List E} {i:Nat} {e:E} {hi:Int} {L2:List E} (he:es[i]? =some e) (h:Sq P (es.drop i) hi L2):∃ Lc L3,L2=Lc++L3∧P e.2 e.1 (nx (es.drop (i+1)) hi) Lc∧Sq P (es.drop (i+1)) hi L3:=by
 obtain ⟨hi',rfl⟩:=List.getElem?_eq_some_iff.1 he
 rw[List.drop_eq_getElem_cons hi'] at h
 exact h
theorem T5 {es:List E} {i:Nat} (hi:Int) (h:i+1<es.length):((kL es).map Iv_)[i+1]? =some (Iv_ (nx (es.drop (i+1)) hi)):=by
 rw[List.drop_eq_getElem_cons h]
 simp[kL,nx,List.getElem?_eq_getElem h]
end
section
open Go.RowKit
variable {Tb:Ae}
end
section
open Go.RowKit
variable {Tb:Ae}
variable {z w:World} {Γ:List Ae} {pp mb n f:Nat} {o:TB} {T:TT} {N:Hm} {C:Nat→Nat} {R:List Nat}
theorem Tr.kid {h r:Nat} {lo hi:Int} {m:Nat} {L:List E} (t:Tr N h r lo hi m L) {d:Nd} (hN:N r=some (.nd d)) {p:Nat} (hp:p∈vals d.es):(h=0∧∃ b,N p=some (.dt b))∨∃ h' lo' hi' L',h=h'+1∧Tr N h' p lo' hi' 4 L':=by
 obtain ⟨es,h1,_,_,_,hB⟩:=Tr.iff.1 t
 rw[h1] at hN;cases hN
 obtain ⟨e,he,rfl⟩:=List.mem_map.1 hp
 cases h with
 | zero=>exact .inl ⟨rfl,hB.2 e he⟩
 | succ h=>
  obtain ⟨X,Y,rfl⟩:=List.append_of_mem he
  obtain ⟨_,Lc,_,_,_,h2,_⟩:=Sq.at hB
  exact .inr ⟨h,_,_,Lc,rfl,h2⟩
theorem Tr.low1 (I:TInv n f N C R) {h r:Nat} {lo hi:Int} {m:Nat} {L:List E} (t:Tr N h r lo hi m L) (hn:n≤1024):h≤6:=by
 rcases Nat.eq_zero_or_pos h with e|hh
 ·omega
 obtain ⟨es,h1,h2,h3,h4,h5⟩:=Tr.iff.1 t
 have hne:es≠[]:=h4.ne (by simp;omega)
 have hl:1≤es.length:=by cases es with|nil=>exact absurd rfl hne|cons=>simp
 have t1:Tr N h r lo hi 1 L:=Tr.iff.2 ⟨es,h1,hl,h3,h4,h5⟩
 obtain ⟨a1,a2,a3⟩:=Jy t1 (Nat.le_refl _)
 have hs:=t1.srt.1
 rw[←a1] at hs
 have hd:=G7 hs (fun p hp=>(a2 p hp).1)
 have hl:=MR hd (fun p hp=>by obtain ⟨d,hd⟩:=(a2 p hp).2;exact (I.nin p _ hd).2.1)
 rcases Nat.lt_or_ge h 7 with q|q
 ·omega
 ·exfalso
  rw[if_neg (by omega)] at a3
  have:4 ^ 6≤4 ^ (h - 1):=Nat.pow_le_pow_right (by omega) (by omega)
  simp at a3
  omega
inductive Rch (N:Hm) (r:Nat):Nat→Prop where
 | refl:Rch N r r
 | step {q p:Nat} {d:Nd} :Rch N r q→N q=some (.nd d)→p∈vals d.es→Rch N r p
theorem TInv.up (I:TInv n f N C R) {p:Nat} (h1:f≤p) (h2:p<n) (hC:1≤C p) (hno:¬ ∃ r∈R,Rch N r p):∃ q d,N q=some (.nd d)∧p∈vals d.es∧¬ ∃ r∈R,Rch N r q:=by
 have hc:=I.cnt p h1 h2
 have hR:p∉R:=fun h=>hno ⟨p,h,.refl⟩
 rw[List.count_eq_zero_of_not_mem hR] at hc
 obtain ⟨q,hq,he⟩:=MH N p n (by omega)
 cases hN:N q with
 | none=>rw[hN] at he;simp[Dk] at he
 | some c=>
  cases c with
  | dt b=>rw[hN] at he;simp[Dk] at he
  | nd d=>
   rw[hN] at he
   have hp:=IQ.1 he
   exact ⟨q,d,hN,hp,fun ⟨r,hr,hq⟩=>hno ⟨r,hr,hq.step hN hp⟩⟩
theorem TInv.reach (I:TInv n f N C R) (hn:n≤1024) {p:Nat} (h1:f≤p) (h2:p<n) (hC:1≤C p):∃ r∈R,Rch N r p:=by
 refine Classical.byContradiction fun hno=> ?_
 have key:∀ j,∃ q h lo hi m L,j≤h∧Tr N h q lo hi m L∧¬ ∃ r∈R,Rch N r q:=fun j=>by
  induction j with
  | zero=>
   obtain ⟨q,d,hq,_,hn⟩:=I.up h1 h2 hC hno
   obtain ⟨h,lo,hi,m,L,t⟩:=I.hg q d hq
   exact ⟨q,h,lo,hi,m,L,Nat.zero_le _,t,hn⟩
  | succ j ih=>
   obtain ⟨q,h,lo,hi,m,L,hj,t,hn⟩:=ih
   obtain ⟨d0,hq0⟩:=t.node
   obtain ⟨a,b,c⟩:=I.nin q _ hq0
   obtain ⟨q',d,hq,hp,hn'⟩:=I.up a b c hn
   obtain ⟨h',lo',hi',m',L',t'⟩:=I.hg q' d hq
   refine ⟨q',h',lo',hi',m',L',?_,t',hn'⟩
   rcases t'.kid hq hp with ⟨_,b,hb⟩|⟨h'',_,_,_,e,t''⟩
   ·rw[hq0] at hb;cases hb
   ·have:=(t.uniq t'').1;omega
 obtain ⟨q,h,lo,hi,m,L,hj,t,_⟩:=key 7
 have:=t.low1 I hn
 omega
theorem Sep.trTab (H:Sep z (trA Tb pp mb n o none::Γ) w):GT Tb∧Sep z (Tb::Γ) w:=by
 obtain ⟨M0,_,H⟩:=H.tr0
 obtain ⟨X,hX,H⟩:=H.po
 refine ⟨hX.tab.2▸hX.tab.1,?_⟩
 have h:=H.pick 7 [6] rfl
 rw[←hX.tab.2];exact h
end
section
open Go.RowKit
variable {Tb:Ae}
theorem T6 {n:Nat} (hn:n≤511):LwI n (Iu n) 0 [] []:=⟨hn,by simp,.inl ⟨rfl,rfl⟩,by simp[vals],rfl⟩
end
section
open Go.RowKit
variable {Tb:Ae}
structure OtE where
 k:Int
 d:Bool
 f:Int
def OtE.cells (e:OtE):List Value:=[.int .i64 e.k,.bool e.d,.int .i64 e.f]
end
section
open Go.RowKit
variable {Tb:Ae}
end
section
open Go.RowKit
variable {Tb:Ae}
end
section
open Go.RowKit
section
variable {P:Program} {o:Oper} {w z:World} {Γ:List Ae} {n:Nat} {ds:List Deferred} {L:List (Nat×Value)} {v:Value} {x y:Operand}
end
/-! ### the pages of a tree -/
def Cl (N:Hm) (Z:List Nat):Prop:=∀ q∈Z,∀ d,N q=some (.nd d)→∀ p∈vals d.es,p∈Z
theorem Cl.app {N:Hm} {Z Y:List Nat} (a:Cl N Z) (b:Cl N Y):Cl N (Z++Y):=fun q hq d hd p hp=>by
 rcases List.mem_append.1 hq with h|h
 ·exact List.mem_append_left _ (a q h d hd p hp)
 ·exact List.mem_append_right _ (b q h d hd p hp)
theorem Rch.cl {N:Hm} {Z:List Nat} (c:Cl N Z) {r p:Nat} (hr:r∈Z) (h:Rch N r p):p∈Z:=by
 induction h with
 | refl=>exact hr
 | step _ hN hp ih=>exact c _ ih _ hN _ hp
theorem Tr.pages {N:Hm} {h r:Nat} {lo hi:Int} {m:Nat} {L:List E} (t:Tr N h r lo hi m L):∃ Z,r∈Z∧Cl N Z∧3 * Z.length+m≤4 * L.length+3:=by
 induction h generalizing r lo hi m L with
 | zero=>
  obtain ⟨es,hN,hm,_,_,rfl,hd⟩:=t
  refine ⟨r::vals L,by simp,?_,by simp[vals];omega⟩
  intro q hq d hd' p hp
  rcases List.mem_cons.1 hq with rfl|hq
  ·rw[hN] at hd';cases hd';exact List.mem_cons_of_mem _ hp
  ·obtain ⟨e,he,rfl⟩:=List.mem_map.1 hq
   obtain ⟨b,hb⟩:=hd e he
   rw[hb] at hd';cases hd'
 | succ h ih=>
  obtain ⟨es,hN,hm,_,_,hs⟩:=t
  have key:∀ (es:List E) (L:List E),Sq (fun c a b L=>Tr N h c a b 4 L) es hi L→∃ Z,(∀ e∈es,e.2∈Z)∧Cl N Z∧3 * Z.length+es.length≤4 * L.length:=by
   intro es
   induction es with
   | nil=>intro L q;exact ⟨[],by simp,fun q hq=>(by simp at hq),by simp⟩
   | cons e u ih2=>
    rintro _ ⟨L1,L2,rfl,h6,h7⟩
    obtain ⟨Z1,a1,a2,a3⟩:=ih h6
    obtain ⟨Z2,b1,b2,b3⟩:=ih2 L2 h7
    refine ⟨Z1++Z2,fun x hx=> ?_,a2.app b2,by simp only[List.length_append,List.length_cons];omega⟩
    rcases List.mem_cons.1 hx with rfl|hx
    ·exact List.mem_append_left _ a1
    ·exact List.mem_append_right _ (b1 x hx)
  obtain ⟨Z,a,b,c⟩:=key es L hs
  refine ⟨r::Z,by simp,?_,by simp only[List.length_cons];omega⟩
  intro q hq d hd p hp
  rcases List.mem_cons.1 hq with rfl|hq
  ·rw[hN] at hd;cases hd
   obtain ⟨e,he,rfl⟩:=List.mem_map.1 hp
   exact List.mem_cons_of_mem _ (a e he)
  ·exact List.mem_cons_of_mem _ (b q hq d hd p hp)
theorem Root.pages {N:Hm} {a:Nat} {L:List E} (h:Root N a L):∃ Z,(∀ p∈BQ a,p∈Z)∧Cl N Z∧3 * Z.length≤4 * L.length+2:=by
 rcases h with ⟨rfl,rfl⟩|⟨h0,h,t⟩
 ·exact ⟨[],by simp[BQ],fun q hq=>(by simp at hq),by simp⟩
 ·obtain ⟨Z,a,b,c⟩:=t.pages
  refine ⟨Z,fun p hp=> ?_,b,by split at c<;>omega⟩
  rw[DE h0] at hp;simp at hp;rw[hp];exact a
theorem HE {F:Nat→Bool} :∀ {n:Nat} {Y:List Nat},(∀ p,p<n→F p=true∨p∈Y)→n≤cnt F 0 n+Y.length
 | 0,_,_=>Nat.zero_le _
 | n+1,Y,h=>by
  simp only[cnt,Nat.zero_add]
  cases e:F n with
  | true=>
   have:=HE (n:=n) (Y:=Y) (fun p hp=>h p (by omega))
   simp;omega
  | false=>
   have hn:n∈Y:=(h n (by omega)).resolve_left (by rw[e];simp)
   have:=HE (n:=n) (Y:=Y.erase n) (fun p hp=>(h p (by omega)).imp id fun q=>(List.mem_erase_of_ne (by omega)).2 q)
   rw[List.length_erase_of_mem hn] at this
   have:=List.length_pos_of_mem hn
   simp;omega
theorem LwI.room {n:Nat} {o:TB} {a b:Nat} {L M:List E} {Q:List Nat} (hI:LwI n o a L Q) (hQ:Q=BQ b) (hb:Root o.N b M) (K:TrK n o none):n≤cnt (BP n o.C) 0 1024+(manyN n+1)+(4 * (L.length+M.length)+4) / 3:=by
 subst hQ
 obtain ⟨Z,z1,z2,z3⟩:=hI.root.pages
 obtain ⟨Y,y1,y2,y3⟩:=hb.pages
 have hn:=K.hn
 have:=HE (F:=BP n o.C) (n:=n) (Y:=List.range (manyN n+1)++(Z++Y)) (fun p hp=>by
  rcases Nat.lt_or_ge p (manyN n+1) with q|q
  ·exact .inr (List.mem_append_left _ (List.mem_range.2 q))
  rcases Nat.eq_zero_or_pos (o.C p) with e|e
  ·exact .inl (decide_eq_true ⟨hp,e⟩)
  ·obtain ⟨r,hr,hR⟩:=K.i.reach hn.2 q hp e
   refine .inr (List.mem_append_right _ ?_)
   have hr:r∈BQ a++BQ b:=by rw[←hI.r];exact hr
   refine hR.cl (z2.app y2) ?_
   rcases List.mem_append.1 hr with hr|hr
   ·exact List.mem_append_left _ (z1 r hr)
   ·exact List.mem_append_right _ (y1 r hr))
 have h2:=Fq (BP n o.C) 0 n (1024 - n)
 rw[show n+(1024 - n)=1024 by omega] at h2
 simp only[List.length_append,List.length_range] at this
 omega
/-! ### keys -/
theorem Q0 {k:Int} {v:Nat} {L:List E} (h:Srt L):(putE k v L).length≤L.length+1∧∀ j,j∈kL (putE k v L)↔j∈kL L∨j=k:=by
 rcases key_split h k with ⟨A,w,B,rfl,h1⟩|⟨_,A,B,rfl,h1,h2⟩
 ·rw[Dl B h1]
  refine ⟨by simp,fun j=> ?_⟩
  simp only[kL,List.map_append,List.map_cons,List.mem_append,List.mem_cons]
  grind
 ·rw[putE_new h1 h2]
  refine ⟨by simp only[List.length_append,List.length_cons];omega,fun j=> ?_⟩
  simp only[kL,List.map_append,List.map_cons,List.mem_append,List.mem_cons]
  grind
theorem Ol:∀ {A B:List Int},A.Pairwise (· < ·)→B.Pairwise (· < ·)→(∀ j,j∈A↔j∈B)→A=B
 | [],[],_,_,_=>rfl
 | [],b::B,_,_,h=>by have:=(h b).2 (by simp);simp at this
 | a::A,[],_,_,h=>by have:=(h a).1 (by simp);simp at this
 | a::A,b::B,ha,hb,h=>by
  obtain ⟨a1,a2⟩:=List.pairwise_cons.1 ha
  obtain ⟨b1,b2⟩:=List.pairwise_cons.1 hb
  have e:a=b:=by
   rcases List.mem_cons.1 ((h a).1 (by simp)) with e|e
   ·exact e
   rcases List.mem_cons.1 ((h b).2 (by simp)) with e'|e'
   ·exact e'.symm
   have:=b1 a e;have:=a1 b e';omega
  subst e
  rw[Ol a2 b2 fun j=>⟨fun hj=> ?_,fun hj=> ?_⟩]
  ·rcases List.mem_cons.1 ((h j).1 (by simp[hj])) with e|e
   ·subst e;have:=a1 _ hj;omega
   ·exact e
  ·rcases List.mem_cons.1 ((h j).2 (by simp[hj])) with e|e
   ·subst e;have:=b1 _ hj;omega
   ·exact e
theorem Wh {L:List E} (h:Srt L):(kL L).Pairwise (· < ·):=List.pairwise_map.2 h
theorem Kp.root {N N':Hm} {a:Nat} {L:List E} (h:Kp N N' (BQ a)) (r:Root N a L):Root N' a L:=by
 by_cases e:a=0
 ·subst e
  rcases r with r|⟨r,_⟩
  ·exact .inl r
  ·exact absurd rfl r
 ·exact h a (by simp[BQ,e]) L r
end
open Go.RowKit
def Ap (a b:Int) (L:List E):List E:=L.filter fun e=>decide (a≤e.1∧e.1<b)
theorem Wi (a b:Int) (X Y:List E):Ap a b (X++Y)=Ap a b X++Ap a b Y:=List.filter_append ..
theorem scF_no {a b:Int} {L:List E} (h:∀ e∈L,e.1<a∨b≤e.1):Ap a b L=[]:=List.filter_eq_nil_iff.2 fun e he q=>by
 have:=h e he
 have:=of_decide_eq_true q
 omega
theorem Om {a b:Int} {L:List E} (h:∀ e∈L,a≤e.1∧e.1<b):Ap a b L=L:=List.filter_eq_self.2 fun e he=>decide_eq_true (h e he)
def Aj (m:Nat) (l X:List E):List E:=l++X.take (m - l.length)
theorem Wj (m:Nat) (l X Y:List E):Aj m l (X++Y)=Aj m (Aj m l X) Y:=by
 unfold Aj
 rw[List.take_append,List.append_assoc]
 congr 3
 rw[List.length_append,List.length_take];omega
theorem scT_full {m:Nat} {l:List E} (h:m≤l.length) (X:List E):Aj m l X=l:=by unfold Aj;rw[Nat.sub_eq_zero_of_le h];simp
theorem Wk (m:Nat) (l:List E):Aj m l []=l:=by simp[Aj]
theorem Wl {m:Nat} {l:List E} (e:E) (h:l.length<m):Aj m l [e]=l++[e]:=by unfold Aj;rw[List.take_of_length_le (by simp;omega)]
theorem FV (m:Nat) (l X:List E):(Aj m l X).length≤l.length+X.length:=by unfold Aj;rw[List.length_append,List.length_take];omega
theorem FW (a b:Int) (L:List E):(Ap a b L).length≤L.length:=List.length_filter_le ..
theorem Es (m:Nat) (l:List E) (a b:Int) (L0 L2:List E):Aj m l (Ap a b (L0++L2))=Aj m (Aj m l (Ap a b L0)) (Ap a b L2):=by rw[Wi,Wj]
theorem BV {m:Nat} {l:List E} {a b:Int} {L0 L2:List E} (h:m≤(Aj m l (Ap a b L0)).length∨∀ e∈L2,e.1<a∨b≤e.1):Aj m l (Ap a b (L0++L2))=Aj m l (Ap a b L0):=by
 rw[Es]
 rcases h with h|h
 ·exact scT_full h _
 ·rw[scF_no h,Wk]
theorem Et {m:Nat} {l:List E} {a b:Int} {L0:List E} {e:E} (h1:(Aj m l (Ap a b L0)).length<m) (h2:a≤e.1∧e.1<b):Aj m l (Ap a b (L0++[e]))=Aj m l (Ap a b L0)++[e]:=by
 rw[Es,Om (L:=[e]) (by simpa using h2),Wl _ h1]
theorem Sq.ge {N:Hm} {h:Nat} {es:List E} {hi:Int} {L:List E} (s:Sq (fun c a b L=>Tr N h c a b 4 L) es hi L) (hs:Srt es) (hr:∀ e∈es,e.1<hi):∀ x∈L,nx es hi≤x.1:=fun x hx=>
 ((Sq.srt s hs hr (fun _ _ _ _ q=>Tr.srt q)).2.1 x hx).1
theorem Srt.drop {es:List E} (h:Srt es) (i:Nat):Srt (es.drop i):=List.Pairwise.drop h
theorem Srt.at_ge {es:List E} (h:Srt es) {i:Nat} {e:E} (he:es[i]? =some e):∀ x∈es.drop i,e.1≤x.1:=fun x hx=>by
 obtain ⟨hi,rfl⟩:=List.getElem?_eq_some_iff.1 he
 have:=h.drop i
 rw[List.drop_eq_getElem_cons hi] at hx this
 rcases List.mem_cons.1 hx with rfl|hx
 ·exact Int.le_refl _
 ·exact Int.le_of_lt ((Srt.cons.1 this).1 x hx)
/-! ### felling -/
def stp (N:Hm):Nat→Nat→Nat
 | 0,_=>1
 | h+1,r=>match N r with
  | some (.nd d)=>(d.es.map fun e=>1+stp N h e.2).sum
  | _=>1
section
open Go.RowKit
variable {Tb:Ae}
end
section
open Go.RowKit
variable {Tb:Ae}
def Zg (v:Value) (ts:List Int) (A:Ae):Prop:=∀ h,A h→rdH 1 v ts.length (ts.map (Value.int .i64)) h∧∀ x∈ts,-9223372036854775808≤x∧x≤9223372036854775807
theorem Yh {A:List Int} {j:Nat} {x:Int} (h:A[j]? =some x):(A.map Iv_)[j]? =some (Iv_ x):=by simp[h]
end
section
open Go.RowKit
variable {Tb:Ae}
structure GrR (n:Nat) (o o2:TB) (a:Nat) (L:List E) (Q:List Nat) (ks:List Int) (mb m2:Nat):Prop where
 m:m2≤mb+2 * ks.length
 I:LwI n o2 a L Q
 kp:Kp o.N o2.N Q
 l:L.length≤ks.length
 k:∀ j,j∈kL L↔j∈ks.map fun x=>(pkI x 100:Int)
theorem GrR.nil {n:Nat} {o:TB} {Q:List Nat} (h:LwI n o 0 [] Q) (mb:Nat):GrR n o o 0 [] Q [] mb mb:=⟨by simp,h,fun c hc L q=>q,Nat.le_refl _,fun j=>by simp[kL]⟩
theorem GrR.step {n:Nat} {o o2 o3:TB} {a a3:Nat} {L:List E} {Q:List Nat} {ks:List Int} {mb m2 i:Nat} {x:Int} {val:Nat} (h:GrR n o o2 a L Q (ks.take i) mb m2) (hx:ks[i]? =some x) (I:LwI n o3 a3 (putE (pkI x 100) val L) Q) (kp:Kp o2.N o3.N Q):GrR n o o3 a3 (putE (pkI x 100) val L) Q (ks.take (i+1)) mb (m2+2):=by
 have hi:=(List.getElem?_eq_some_iff.1 hx).1
 have h1:=h.m
 have h2:=h.l
 rw[List.length_take] at h1 h2
 obtain ⟨p1,p2⟩:=Q0 (k:=(pkI x 100:Int)) (v:=val) h.I.root.srt.1
 refine ⟨by rw[List.length_take];omega,I,h.kp.trans kp,by rw[List.length_take];omega,fun j=> ?_⟩
 rw[p2 j,h.k j,List.take_add_one,hx,List.map_append,List.mem_append];simp
set_option maxHeartbeats 4000000 in
theorem On (pp mb0 n:Nat) (o0:TB) (A:Ae) (Q:List Nat) (b:Nat) (M:List E) (v:Value) (ks:List Int) (hA:Zg v ks A) (h0:LwI n o0 0 [] Q) (hQ:Q=BQ b) (hb:Root o0.N b M) (hroom:manyN n+14+(4 * (min 80 ks.length+M.length)+4) / 3≤n) (hmb0:mb0≤900000000):Cn prog 10 [Pt_ pp,v] [trA Tb pp mb0 n o0 none,A] (fun v Γ=>∃ (pm ra:Nat) (L:List E) (o2:TB) (m2:Nat),GrR n o0 o2 ra L Q (ks.take 80) mb0 m2∧v= .tuple #[Iv_ (ra:Int),Pt_ pm,.bool true]∧Γ=[mpA pm L,trA Tb pp m2 n o2 none,A]):=by
 intro z R w H;replace H:=H.l2;obtain ⟨ao,oc,rfl⟩:=H.says 1 rfl (fun h q=>(hA h q).1.slc);refine Ad func10 rfl ntmps10 rfl (Za 10 [] H rfl ?_);intro b1 w H;refine Zc 4 rfl ?_;replace H:=(H.nilg 55 2).l4
 have H':Sep z (mpA b1 ([])::trA Tb pp mb0 n o0 none::A::R) w:=(H.pick 4 [1,0,2,3] rfl).toMp (L:=[])
 have H:=H'.l3;refine Zc 11 rfl ?_;refine AH (σ:=Nat×Nat×List E×TB×Nat) (fun ⟨i,ra,L,o,mb⟩=>[(9,Iv_ (i:Int)),(8,Iv_ (ra:Int)),(0,Pt_ pp),(1,.slice ao ks.length oc),(7,Pt_ b1)])
   (fun ⟨i,ra,L,o,mb⟩ w=>Sep z (mpA b1 L::trA Tb pp mb n o none::A::R) w∧(i≤80∧i≤ks.length∧GrR n o0 o ra L Q (ks.take i) mb0 mb)) (fun ⟨i,ra,L,o,mb⟩=>80 - i) ⟨0,0,[],o0,mb0⟩
   (fun _ hF=>(hF.co rfl (by go_num) (hF.co rfl (by go_num) (hF.all rfl)))) ⟨H,⟨Nat.zero_le _,Nat.zero_le _,GrR.nil h0 mb0⟩⟩ ?_
 clear H;rintro ⟨i,ra,L,o,mb⟩ w ⟨H',hI⟩;dsimp only at hI H' ⊢
 have H:=H'.l3;obtain ⟨hi80,hil,hG⟩:=hI;refine Z0 8 [0] rfl (Ak 19 rfl (fun h1=> ?_) (fun h1=> ?_))
 ·refine Z0 5 [0] rfl (Af rfl (fun h2=> ?_) (fun h2=> ?_))
  ·refine Zc 5 rfl ?_;have hI:=hG.I
   obtain ⟨x,hx⟩:∃ x,ks[i]? =some x:=⟨_,List.getElem?_eq_getElem (by omega)⟩;have hxb:=H.says 2 rfl (fun h q=>(hA h q).2 x (List.mem_of_getElem? hx))
   have hat:=(H.rd 2 rfl (fun h q=>(hA h q).1)).at (j:=i) (u:=Iv_ x) (Yh hx)
   have K:=H.says 1 rfl (fun h a=>trA.k a)
   have hn:=K.hn
   have hmn:manyN n≤5:=by unfold manyN;have:=hI.n;omega
   have hkp:Kp o0.N o.N (BQ b):=hQ▸hG.kp
   have hrm:=hI.room hQ (hkp.root hb) K
   have hgl:=hG.l
   rw[List.length_take] at hgl;have hpk:=Yc x (N:=100) (by omega)
   have hky:(0:Int)≤(pkI x 100:Int)∧(pkI x 100:Int)<1048576:=by omega
   have hvp:=Tn K.i (by omega) (show ∀ e∈L,∃ b,EH o none e.2=some (.dt b) from hI.root.data)
   have hll:L.length≤1048576:=by omega
   have hmb:mb≤1000000000:=by have:=hG.m;rw[List.length_take] at this;omega
   refine Zc 3 rfl (Ab rfl (Ao rfl (z:=1) (j:=i) (r:=i) (by kernel_rfl) rfl rfl rfl (by omega) hat (by omega)) (Ab rfl (Az rfl rfl (by kernel_rfl) (Av hat)) (z_E_ rfl (call17 _) (Wf _ 100 hxb (by omega)) H ?_)));intro w H;refine Zc 7 rfl (z_E_ rfl (call18 _) (J6 _ _ _ _) H.f1 ?_);intro w H;replace H:=H.l3;replace H:=(H.mono 0 (B:=trA Tb pp mb n o (some ((⟨o.N,o.C,BP n o.C,0⟩:TS),BQ ra++Q))) rfl (fun h q=>by rw[hI.r] at q;exact q)).l3
   refine Z0 10 [4] rfl (Ar rfl (call29 _) (Yf _) H ?_);rintro _ w _ ⟨pb,rfl,rfl⟩ H;replace H:=H.l4;refine Ar rfl (call28 _) (Wg pp mb n o (⟨o.N,o.C,BP n o.C,0⟩:TS) (BQ ra++Q) (pkI x 100:Int) pb (by show 0<40;omega)) H.f1 ?_;rintro _ w _ (⟨h00,rfl,rfl⟩|⟨val,t2,⟨hv0,hvd,hnv,hkT,hk2,hf2⟩,rfl,rfl⟩) H'
   ·(exfalso;have h00:cnt (BP n o.C) 0 1024=0:=h00;omega)
   ·have H:=H'.l4;have hf3:cnt (BP n o.C) 0 1024=cnt t2.F 0 1024+1:=hf2
    have hk3:t2.k≤0+1:=hk2
    refine Z0 23 [4] rfl ?_;have hR2:Root t2.N ra L:=Kp.of (Q:=[ra]) (fun c _ h=>hkT h c) ra (by simp) L hI.root
    refine Ar rfl (call30 _) (YY pp mb n o t2 Q ra (pkI x 100:Int) val _ L hR2 hI.n hky hvd hnv (by omega) hI.q) H ?_;rintro _ w _ (⟨hf4,s3,rfl,rfl⟩|⟨t3,r,⟨hSt3,hR3,hfr⟩,rfl,rfl⟩) H'
    ·(exfalso;omega)
    ·have H:=H'.l4;have hSk:=hSt3.k
     have hnd3:(vals (putE (pkI x 100:Int) val L)).Nodup:=Ph hI.root.srt.1 hI.nd (fun q=>by obtain ⟨e,he,rfl⟩:=List.mem_map.1 q;obtain ⟨b,hb⟩:=hI.root.data e he;rw[show o.N e.2=none from hv0] at hb;cases hb)
     refine Z0 14 [4] rfl (z_E_ rfl (call20 _) (MK _ _ _ _ _ _ (by omega) hmb) H ?_);intro w H;refine Z0 11 [4] rfl (z_E_ rfl (call35 _) (Yg _ _ val L (by omega) hI.root.srt.1) H.f2 ?_);intro w H;refine Z1 8 [] [(i:Int)+1] rfl (by omega) ?_;replace H:=H.f2.d;refine gf ?_;intro _ hF;refine ⟨⟨i+1,r,putE (pkI x 100:Int) val L,⟨t3.N,t3.C,BQ r++Q⟩,mb+2⟩,(hF.co rfl (by go_num) (hF.all rfl)),⟨H,?_⟩,?_⟩
     ·exact ⟨by show i+1≤80;omega,by show i+1≤ks.length;omega,hG.step hx (hI.done hR3 hnd3 rfl) (Kp.of fun c hc h lo hi m L x=>hSt3.fr c hc h lo hi m L (hkT h c lo hi m L x))⟩
     ·(dsimp only;omega)
  ·refine Zc 2 rfl (gx (Zc 12 rfl (Zr rfl ?_)));exact ⟨_,⟨b1,ra,L,o,mb,(by have e:ks.take i=ks.take 80:=(by rcases Nat.lt_or_ge i 80 with r|r;rw[List.take_of_length_le (by omega),List.take_of_length_le (by omega)];rw[show i=80 by omega]);rw[←e];exact hG),rfl,rfl⟩,H.pick 3 [0,1,2] rfl⟩
 ·refine Zc 8 rfl (gx (Zc 12 rfl (Zr rfl ?_)));exact ⟨_,⟨b1,ra,L,o,mb,(by have e:ks.take i=ks.take 80:=(by rcases Nat.lt_or_ge i 80 with r|r;rw[List.take_of_length_le (by omega),List.take_of_length_le (by omega)];rw[show i=80 by omega]);rw[←e];exact hG),rfl,rfl⟩,H.pick 3 [0,1,2] rfl⟩
end
section
open Go.RowKit
variable {Tb:Ae}
set_option maxHeartbeats 4000000 in
theorem Yi (pp mb n:Nat) (o:TB) (fr tt mo:Int) (ra:Nat) (lo hi:Int) (m_:Nat) (L l:List E) (u:Value) (hT:Tr o.N 0 ra lo hi m_ L) (hll:l.length+L.length≤1048576):Cn prog 36 [Pt_ pp,Iv_ (ra:Int),Iv_ fr,Iv_ tt,Iv_ mo,u] [trA Tb pp mb n o none,grow 55 2 u l.length (AX l)] (fun v Γ=>∃ u2:Value,v= .tuple #[u2,Iv_ 0]∧Γ=[trA Tb pp mb n o none,grow 55 2 u2 (Aj mo.toNat l (Ap fr tt L)).length (AX (Aj mo.toNat l (Ap fr tt L)))]):=by
 intro z R w H;replace H:=H.l2;have su:=H.says 1 rfl (fun h q=>q.slc)
 have K:=H.says 0 rfl (fun h a=>trA.k a)
 have hn:=K.hn
 obtain ⟨es,hN,hme,hrg,hok,hLe,hdt⟩:=hT;obtain rfl:es=L:=hLe.symm;have hck:CkN true (kL es) (vL es):=K.i.vok (by omega) hn.2 hN
 have hes8:es.length≤8:=hok.len
 have hra0:=(K.i.nin _ _ hN).1
 refine Ad func36 rfl ntmps36 rfl (Zc 10 rfl (Ar rfl (call50 _) (Fc pp mb n o none ra true es hN) H ?_));rintro _ w _ ⟨nk,nv,rfl,rfl⟩ H;replace H:=H.l4;have snk:=H.says 0 rfl (fun h q=>q.slc)
 obtain ⟨ka,kc,rfl⟩:=snk;have snv:=H.says 1 rfl (fun h q=>q.slc)
 obtain ⟨va,vc,rfl⟩:=snv;refine Za 3 [] H rfl ?_;intro b1 w H;refine Z4 24 [0,4,1,0,0] H rfl ?_;intro w H;refine AH (σ:=Nat×Value) (fun ⟨i,u⟩=>[(29,Iv_ (i:Int)),(5,u),(0,Pt_ pp),(2,Iv_ fr),(3,Iv_ tt),(4,Iv_ mo),(14,Pt_ b1),(28,Iv_ (((kL es).length:Nat):Int))])
   (fun ⟨i,u⟩ w=>Sep z (blk b1 [.bool true,.slice ka ((kL es).length) kc,.slice va ((vL es).length) vc] 92::grow 3 1 (.slice ka ((kL es).length) kc) ((kL es).length) ((kL es).map Iv_)::grow 3 1 (.slice va ((vL es).length) vc) ((vL es).length) ((vL es).map Iv_)::trA Tb pp mb n o none::grow 55 2 u ((Aj mo.toNat l (Ap fr tt (es.take i))).length) (AX (Aj mo.toNat l (Ap fr tt (es.take i))))::R) w∧(i≤es.length)) (fun ⟨i,u⟩=>es.length - i) ⟨0,u⟩
   (fun _ hF=>(hF.co rfl (by go_num) (hF.all rfl))) ⟨(by simpa [Aj,Ap] using H),Nat.zero_le _⟩ ?_
 clear H;rintro ⟨i,u⟩ w ⟨H',hI⟩;dsimp only at hI H' ⊢
 have H:=H'.l5;have su:=H.says 4 rfl (fun h q=>q.slc)
 have hil0:=hI;clear hI
 have hkl:(kL es).length=es.length:=by simp
 have hvl:(vL es).length=es.length:=by simp
 refine Z0 6 [0] rfl (Af rfl (fun h1=> ?_) (fun h1=> ?_))
 ·refine Zc 12 rfl ?_;have hil:i<es.length:=by simp only[List.length_map] at *;omega
  obtain ⟨e,he⟩:∃ e,es[i]? =some e:=⟨_,List.getElem?_eq_getElem hil⟩;have hem:=List.mem_of_getElem? he
  have her:=hrg e hem
  have hka:=(H.rd 1 rfl (fun h q=>q.rd)).at (j:=i) (u:=Iv_ e.1) (by simp[kL,he])
  have hva:=(H.rd 2 rfl (fun h q=>q.rd)).at (j:=i) (u:=Iv_ (e.2:Int)) (by simp[vL,he])
  have hge:=hok.srt.at_ge he
  have htk:es.take (i+1)=es.take i++[e]:=by rw[List.take_add_one,he];rfl
  refine Zc 2 rfl (Ab rfl (CI rfl (sz:=2) (by kernel_rfl) rfl su) (Z0 3 [0] rfl (Ak 37 rfl (fun h2=> ?_) (fun h2=> ?_))))
  ·refine Zc 20 rfl (Zr rfl ?_);have hend:(Aj mo.toNat l (Ap fr tt es))=(Aj mo.toNat l (Ap fr tt (es.take i))):=by have:=BV (m:=mo.toNat) (l:=l) (a:=fr) (b:=tt) (L0:=es.take i) (L2:=es.drop i) (by first|exact .inl (by omega)|exact .inr (fun x hx=> .inr (by have:=hge x hx;omega)));rwa[List.take_append_drop] at this
   exact ⟨_,⟨u,rfl,rfl⟩,by rw[hend];exact H.pick 5 [3,4] rfl⟩
  ·refine Z2 3 [1,0,0] H rfl (Ab rfl (Ao rfl (z:=1) (j:=i) (r:=i) (by kernel_rfl) rfl rfl rfl (by omega) hka (by omega)) (Ab rfl (Az rfl rfl (by kernel_rfl) (Av hka)) (Z0 6 [0] rfl (Af rfl (fun h3=> ?_) (fun h3=> ?_)))))
   ·refine Zc 8 rfl (Zr rfl ?_);have hend:(Aj mo.toNat l (Ap fr tt es))=(Aj mo.toNat l (Ap fr tt (es.take i))):=by have:=BV (m:=mo.toNat) (l:=l) (a:=fr) (b:=tt) (L0:=es.take i) (L2:=es.drop i) (by first|exact .inl (by omega)|exact .inr (fun x hx=> .inr (by have:=hge x hx;omega)));rwa[List.take_append_drop] at this
    exact ⟨_,⟨u,rfl,rfl⟩,by rw[hend];exact H.pick 5 [3,4] rfl⟩
   ·refine Z2 8 [0,0,0,1,0,0] H rfl (Ab rfl (Ao rfl (z:=1) (j:=i) (r:=i) (by kernel_rfl) rfl rfl rfl (by omega) hka (by omega)) (Ab rfl (Az rfl rfl (by kernel_rfl) (Av hka)) (Z0 6 [0] rfl (Af rfl (fun h4=> ?_) (fun h4=> ?_)))))
    ·refine AK (Sep z (blk b1 [.bool true,.slice ka ((kL es).length) kc,.slice va ((vL es).length) vc] 92::grow 3 1 (.slice ka ((kL es).length) kc) ((kL es).length) ((kL es).map Iv_)::grow 3 1 (.slice va ((vL es).length) vc) ((vL es).length) ((vL es).map Iv_)::R)) 15 rfl (by kernel_rfl) (Bc H fun w H'=> ?_)
     have H:=H'.l5;refine AZ [0,1,2,3] [1,0,0] [] (by exact (H.pick 5 [0,1,2] rfl)) rfl (by kernel_rfl) rfl (BC 4 rfl (by kernel_rfl) (by kernel_rfl) (by kernel_rfl) rfl rfl rfl (Ao rfl (z:=1) (j:=i) (r:=i) (by kernel_rfl) rfl rfl rfl (by omega) hka (by omega)) (H.pick 5 [0,1,2] rfl) (BC 5 rfl (by kernel_rfl) (by kernel_rfl) (by kernel_rfl) rfl rfl rfl (Az rfl rfl (by kernel_rfl) (fun _ hx'=>(hx'.rd 1 rfl (fun h q=>q.rd)).at (j:=i) (u:=Iv_ e.1) (by simp[kL,he]))) (H.pick 5 [0,1,2] rfl) (AZ [6,7,8] [2,0,0] [] (by exact (H.pick 5 [0,1,2] rfl)) rfl (by kernel_rfl) rfl (BC 9 rfl (by kernel_rfl) (by kernel_rfl) (by kernel_rfl) rfl rfl rfl (Ao rfl (z:=1) (j:=i) (r:=i) (by kernel_rfl) rfl rfl rfl (by omega) hva (by omega)) (H.pick 5 [0,1,2] rfl) (BC 10 rfl (by kernel_rfl) (by kernel_rfl) (by kernel_rfl) rfl rfl rfl (Az rfl rfl (by kernel_rfl) (fun _ hx'=>(hx'.rd 2 rfl (fun h q=>q.rd)).at (j:=i) (u:=Iv_ (e.2:Int)) (by simp[vL,he]))) (H.pick 5 [0,1,2] rfl) (AZ [11] [] [] (by exact (H.pick 5 [0,1,2] rfl)) rfl (by kernel_rfl) rfl (AE [12] (by kernel_rfl) (by simp) (AB (B6 rfl rfl rfl rfl (AI H rfl (by kernel_rfl) AP rfl (by decide) (by decide) (out:=[Iv_ e.1,Iv_ (e.2:Int)]) (by kernel_rfl)) ?_)))))))));rintro _ w ⟨b2,rfl,H⟩;replace H:=H.l6;refine Ax (H.pick 6 [1,2,3] rfl) (AE [13] (by kernel_rfl) (by simp) (AB (B6 rfl rfl rfl rfl (AY 5 H rfl rfl (by kernel_rfl) AP rfl rfl (H.rd 0 rfl (fun h q=>q.rd (by omega) (by omega) (by simp) rfl)) (by simp[Value.oneCell']) (by have:=FV mo.toNat l (Ap fr tt (es.take i));have:=FW fr tt (es.take i);rw[List.length_take] at this;omega)) ?_)))
     rintro v3 w H';have H':Sep z (blk b2 [Iv_ e.1,Iv_ (e.2:Int)] 55::blk b1 [.bool true,.slice ka ((kL es).length) kc,.slice va ((vL es).length) vc] 92::grow 3 1 (.slice ka ((kL es).length) kc) ((kL es).length) ((kL es).map Iv_)::grow 3 1 (.slice va ((vL es).length) vc) ((vL es).length) ((vL es).map Iv_)::trA Tb pp mb n o none::grow 55 2 v3 ((Aj mo.toNat l (Ap fr tt (es.take i))).length+1) (AX (Aj mo.toNat l (Ap fr tt (es.take i)))++[Iv_ e.1,Iv_ (e.2:Int)])::R) w:=H'
     have ev3:(AX (Aj mo.toNat l (Ap fr tt (es.take i)))++[Iv_ e.1,Iv_ (e.2:Int)]:List Value)=AX (Aj mo.toNat l (Ap fr tt (es.take (i+1)))):=(by rw[htk,Et (by omega) ⟨by omega,by omega⟩,Fx];rfl)
     rw[ev3] at H';rw[show ((Aj mo.toNat l (Ap fr tt (es.take i))).length+1:Nat)=(Aj mo.toNat l (Ap fr tt (es.take (i+1)))).length from (by rw[htk,Et (by omega) ⟨by omega,by omega⟩,List.length_append];rfl)] at H';have H:=H'.l6;have sv3:=H.says 5 rfl (fun h q=>q.slc)
     refine Ax (H.pick 6 [1,2,3] rfl) (AZ [14] [] [] (by exact (H.pick 6 [1,2,3] rfl)) rfl (by kernel_rfl) rfl (a_done (by kernel_rfl) (gn (Z1 7 [] [(i:Int)+1] rfl (by omega) ?_))));replace H:=H.d;refine gf ?_;intro _ hF;refine ⟨⟨i+1,v3⟩,(hF.co rfl (by go_num) (hF.all rfl)),⟨H,?_⟩,?_⟩
     ·show i+1≤es.length;omega
     ·(dsimp only;omega)
    ·refine Z3 35 [0,0,0] [(i:Int)+1] H rfl (by omega) (gf ?_);intro _ hF;refine ⟨⟨i+1,u⟩,(hF.co rfl (by go_num) (hF.all rfl)),⟨(by rw[show (Aj mo.toNat l (Ap fr tt (es.take (i+1))))=(Aj mo.toNat l (Ap fr tt (es.take i))) from by rw[htk];exact BV (.inr (fun x hx=>by simp at hx;subst hx;omega))];exact H),?_⟩,?_⟩
     ·show i+1≤es.length;omega
     ·(dsimp only;omega)
 ·refine Zc 2 rfl (gx (Zc 10 rfl (Zr rfl ?_)));have hend:(Aj mo.toNat l (Ap fr tt es))=(Aj mo.toNat l (Ap fr tt (es.take i))):=by rw[show es.take i=es from List.take_of_length_le (by simp only[List.length_map] at *;omega)]
  exact ⟨_,⟨u,rfl,rfl⟩,by rw[hend];exact H.pick 5 [3,4] rfl⟩
set_option maxHeartbeats 4000000 in
theorem Yj (pp mb n:Nat) (o:TB) (fr tt mo:Int) (h:Nat) (ih:∀ (ra:Nat) (lo hi:Int) (m_:Nat) (L l:List E) (u:Value),Tr o.N h ra lo hi m_ L→l.length+L.length≤1048576→Cn prog 36 [Pt_ pp,Iv_ (ra:Int),Iv_ fr,Iv_ tt,Iv_ mo,u] [trA Tb pp mb n o none,grow 55 2 u l.length (AX l)] (fun v Γ=>∃ u2:Value,v= .tuple #[u2,Iv_ 0]∧Γ=[trA Tb pp mb n o none,grow 55 2 u2 (Aj mo.toNat l (Ap fr tt L)).length (AX (Aj mo.toNat l (Ap fr tt L)))])) (ra:Nat) (lo hi:Int) (m_:Nat) (L l:List E) (u:Value) (hT:Tr o.N (h+1) ra lo hi m_ L) (hll:l.length+L.length≤1048576):Cn prog 36 [Pt_ pp,Iv_ (ra:Int),Iv_ fr,Iv_ tt,Iv_ mo,u] [trA Tb pp mb n o none,grow 55 2 u l.length (AX l)] (fun v Γ=>∃ u2:Value,v= .tuple #[u2,Iv_ 0]∧Γ=[trA Tb pp mb n o none,grow 55 2 u2 (Aj mo.toNat l (Ap fr tt L)).length (AX (Aj mo.toNat l (Ap fr tt L)))]):=by
 intro z R w H;replace H:=H.l2;have su:=H.says 1 rfl (fun h q=>q.slc)
 have K:=H.says 0 rfl (fun h a=>trA.k a)
 have hn:=K.hn
 obtain ⟨es,hN,hme,hrg,hok,hsq⟩:=hT;have hck:CkN false (kL es) (vL es):=K.i.vok (by omega) hn.2 hN
 have hes8:es.length≤8:=hok.len
 have hra0:=(K.i.nin _ _ hN).1
 refine Ad func36 rfl ntmps36 rfl (Zc 10 rfl (Ar rfl (call50 _) (Fc pp mb n o none ra false es hN) H ?_));rintro _ w _ ⟨nk,nv,rfl,rfl⟩ H;replace H:=H.l4;have snk:=H.says 0 rfl (fun h q=>q.slc)
 obtain ⟨ka,kc,rfl⟩:=snk;have snv:=H.says 1 rfl (fun h q=>q.slc)
 obtain ⟨va,vc,rfl⟩:=snv;refine Za 3 [] H rfl ?_;intro b1 w H;refine Z4 24 [0,4,1,0,0] H rfl ?_;intro w H;refine AH (σ:=Nat×Value×List E×List E) (fun ⟨i,u,L0,L2⟩=>[(29,Iv_ (i:Int)),(5,u),(0,Pt_ pp),(2,Iv_ fr),(3,Iv_ tt),(4,Iv_ mo),(14,Pt_ b1),(28,Iv_ (((kL es).length:Nat):Int))])
   (fun ⟨i,u,L0,L2⟩ w=>Sep z (blk b1 [.bool false,.slice ka ((kL es).length) kc,.slice va ((vL es).length) vc] 92::grow 3 1 (.slice ka ((kL es).length) kc) ((kL es).length) ((kL es).map Iv_)::grow 3 1 (.slice va ((vL es).length) vc) ((vL es).length) ((vL es).map Iv_)::trA Tb pp mb n o none::grow 55 2 u ((Aj mo.toNat l (Ap fr tt L0)).length) (AX (Aj mo.toNat l (Ap fr tt L0)))::R) w∧(i≤es.length∧L=L0++L2∧Sq (fun c a b L=>Tr o.N h c a b 4 L) (es.drop i) hi L2)) (fun ⟨i,u,L0,L2⟩=>es.length - i) ⟨0,u,[],L⟩
   (fun _ hF=>(hF.co rfl (by go_num) (hF.all rfl))) ⟨(by simpa [Aj,Ap] using H),⟨Nat.zero_le _,rfl,hsq⟩⟩ ?_
 clear H;rintro ⟨i,u,L0,L2⟩ w ⟨H',hI⟩;dsimp only at hI H' ⊢
 have H:=H'.l5;have su:=H.says 4 rfl (fun h q=>q.slc)
 obtain ⟨hil0,hLe,hsi⟩:=hI;have hkl:(kL es).length=es.length:=by simp
 have hvl:(vL es).length=es.length:=by simp
 refine Z0 6 [0] rfl (Af rfl (fun h1=> ?_) (fun h1=> ?_))
 ·refine Zc 12 rfl ?_;have hil:i<es.length:=by simp only[List.length_map] at *;omega
  obtain ⟨e,he⟩:∃ e,es[i]? =some e:=⟨_,List.getElem?_eq_getElem hil⟩;have hem:=List.mem_of_getElem? he
  have her:=hrg e hem
  have hka:=(H.rd 1 rfl (fun h q=>q.rd)).at (j:=i) (u:=Iv_ e.1) (by simp[kL,he])
  have hva:=(H.rd 2 rfl (fun h q=>q.rd)).at (j:=i) (u:=Iv_ (e.2:Int)) (by simp[vL,he])
  obtain ⟨Lc,L3,hL2,hTc,hs3⟩:=T4 he hsi;have hdr:=List.drop_eq_getElem_cons hil
  have hge:∀ x∈L2,e.1≤x.1:=fun x hx=>by have:=Sq.ge hsi (hok.srt.drop i) (fun y hy=>(hrg y (List.mem_of_mem_drop hy)).2) x hx;rw[hdr] at this;have he2:=(List.getElem?_eq_some_iff.1 he).2;simp only[nx] at this;rw[he2] at this;exact this
  have hlc:=hTc.srt.2
  refine Zc 2 rfl (Ab rfl (CI rfl (sz:=2) (by kernel_rfl) rfl su) (Z0 3 [0] rfl (Ak 37 rfl (fun h2=> ?_) (fun h2=> ?_))))
  ·refine Zc 20 rfl (Zr rfl ?_);have hend:(Aj mo.toNat l (Ap fr tt L))=(Aj mo.toNat l (Ap fr tt L0)):=by rw[hLe];exact BV (by first|exact .inl (by omega)|exact .inr (fun x hx=> .inr (by have:=hge x hx;omega)))
   exact ⟨_,⟨u,rfl,rfl⟩,by rw[hend];exact H.pick 5 [3,4] rfl⟩
  ·refine Z2 3 [1,0,0] H rfl (Ab rfl (Ao rfl (z:=1) (j:=i) (r:=i) (by kernel_rfl) rfl rfl rfl (by omega) hka (by omega)) (Ab rfl (Az rfl rfl (by kernel_rfl) (Av hka)) (Z0 6 [0] rfl (Af rfl (fun h3=> ?_) (fun h3=> ?_)))))
   ·refine Zc 8 rfl (Zr rfl ?_);have hend:(Aj mo.toNat l (Ap fr tt L))=(Aj mo.toNat l (Ap fr tt L0)):=by rw[hLe];exact BV (by first|exact .inl (by omega)|exact .inr (fun x hx=> .inr (by have:=hge x hx;omega)))
    exact ⟨_,⟨u,rfl,rfl⟩,by rw[hend];exact H.pick 5 [3,4] rfl⟩
   ·refine Z3 30 [0,0,0,0,0,0,1,0,0,0] [(i:Int)+1] H rfl (by omega) (Ak 84 rfl (fun h4=> ?_) (fun h4=> ?_))
    ·refine Z2 20 [2,0,0] H rfl (Ab rfl (Ao rfl (z:=1) (j:=i) (r:=i) (by kernel_rfl) rfl rfl rfl (by omega) hva (by omega)) (Ab rfl (Az rfl rfl (by kernel_rfl) (Av hva)) (Zc 4 rfl (Ar rfl (call36 _) (ih e.2 e.1 (nx (es.drop (i+1)) hi) 4 Lc (Aj mo.toNat l (Ap fr tt L0)) u hTc (by have:=FV mo.toNat l (Ap fr tt L0);have:=FW fr tt L0;rw[hLe,hL2] at hll;simp only[List.length_append] at hll;omega)) H.f4.f4 ?_))));rintro _ w _ ⟨u2,rfl,rfl⟩ H;replace H:=H.l5;have H':Sep z (trA Tb pp mb n o none::grow 55 2 u2 ((Aj mo.toNat l (Ap fr tt (L0++Lc))).length) (AX (Aj mo.toNat l (Ap fr tt (L0++Lc))))::blk b1 [.bool false,.slice ka ((kL es).length) kc,.slice va ((vL es).length) vc] 92::grow 3 1 (.slice ka ((kL es).length) kc) ((kL es).length) ((kL es).map Iv_)::grow 3 1 (.slice va ((vL es).length) vc) ((vL es).length) ((vL es).map Iv_)::R) w:=by rw[Es];exact H
     have H:=H'.l5;have su2:=H.says 1 rfl (fun h q=>q.rd.slc)
     refine Z1 22 [4] [(i:Int)+1] rfl (by omega) ?_;replace H:=H.f1.f1.f4.f4.f4;refine gf ?_;intro _ hF;refine ⟨⟨i+1,u2,L0++Lc,L3⟩,(hF.co rfl (by go_num) (hF.all rfl)),⟨H,?_⟩,?_⟩
     ·exact ⟨by show i+1≤es.length;omega,by show L=L0++Lc++L3;rw[hLe,hL2,List.append_assoc],hs3⟩
     ·(dsimp only;omega)
    ·refine Z3 4 [1,0,0] [(i:Int)+1] H rfl (by omega) ?_;have hnx:=(H.rd 1 rfl (fun h q=>q.rd)).at (j:=i+1) (u:=Iv_ (nx (es.drop (i+1)) hi)) (T5 hi (by simp only[List.length_map] at *;omega))
     refine Ab rfl (Ao rfl (z:=1) (j:=(i+1)) (r:=(i+1)) (by kernel_rfl) rfl rfl (by omega) (by simp only[List.length_map] at *;omega) hka (by omega)) (Ab rfl (Az rfl rfl (by kernel_rfl) (Av hnx)) (Z0 7 [0] rfl (Af rfl (fun h5=> ?_) (fun h5=> ?_))))
     ·refine Z2 6 [2,0,0] H rfl (Ab rfl (Ao rfl (z:=1) (j:=i) (r:=i) (by kernel_rfl) rfl rfl rfl (by omega) hva (by omega)) (Ab rfl (Az rfl rfl (by kernel_rfl) (Av hva)) (Zc 4 rfl (Ar rfl (call36 _) (ih e.2 e.1 (nx (es.drop (i+1)) hi) 4 Lc (Aj mo.toNat l (Ap fr tt L0)) u hTc (by have:=FV mo.toNat l (Ap fr tt L0);have:=FW fr tt L0;rw[hLe,hL2] at hll;simp only[List.length_append] at hll;omega)) H.f4.f4 ?_))));rintro _ w _ ⟨u2,rfl,rfl⟩ H;replace H:=H.l5;have H':Sep z (trA Tb pp mb n o none::grow 55 2 u2 ((Aj mo.toNat l (Ap fr tt (L0++Lc))).length) (AX (Aj mo.toNat l (Ap fr tt (L0++Lc))))::blk b1 [.bool false,.slice ka ((kL es).length) kc,.slice va ((vL es).length) vc] 92::grow 3 1 (.slice ka ((kL es).length) kc) ((kL es).length) ((kL es).map Iv_)::grow 3 1 (.slice va ((vL es).length) vc) ((vL es).length) ((vL es).map Iv_)::R) w:=by rw[Es];exact H
      have H:=H'.l5;have su2:=H.says 1 rfl (fun h q=>q.rd.slc)
      refine Z1 22 [4] [(i:Int)+1] rfl (by omega) ?_;replace H:=H.f1.f1.f4.f4.f4;refine gf ?_;intro _ hF;refine ⟨⟨i+1,u2,L0++Lc,L3⟩,(hF.co rfl (by go_num) (hF.all rfl)),⟨H,?_⟩,?_⟩
      ·exact ⟨by show i+1≤es.length;omega,by show L=L0++Lc++L3;rw[hLe,hL2,List.append_assoc],hs3⟩
      ·(dsimp only;omega)
     ·refine Z1 8 [] [(i:Int)+1] rfl (by omega) (gf ?_);intro _ hF;refine ⟨⟨i+1,u,L0++Lc,L3⟩,(hF.co rfl (by go_num) (hF.all rfl)),⟨(by rw[show (Aj mo.toNat l (Ap fr tt (L0++Lc)))=(Aj mo.toNat l (Ap fr tt L0)) from BV (.inr (fun x hx=>by have:=hlc x hx;omega))];exact H),?_⟩,?_⟩
      ·exact ⟨by show i+1≤es.length;omega,by show L=L0++Lc++L3;rw[hLe,hL2,List.append_assoc],hs3⟩
      ·(dsimp only;omega)
 ·refine Zc 2 rfl (gx (Zc 10 rfl (Zr rfl ?_)));have hend:(Aj mo.toNat l (Ap fr tt L))=(Aj mo.toNat l (Ap fr tt L0)):=by have:L2=[]:=(by have hie:i=es.length:=(by simp only[List.length_map] at *;omega);have h:=hsi;rw[hie,List.drop_length] at h;exact h);rw[hLe,this,List.append_nil]
  exact ⟨_,⟨u,rfl,rfl⟩,by rw[hend];exact H.pick 5 [3,4] rfl⟩
end
section
open Go.RowKit
variable {Tb:Ae}
theorem YZ (pp mb n:Nat) (o:TB) (fr tt mo:Int) (h:Nat):∀ (ra:Nat) (lo hi:Int) (m_:Nat) (L l:List E) (u:Value),Tr o.N h ra lo hi m_ L→l.length+L.length≤1048576→Cn prog 36 [Pt_ pp,Iv_ (ra:Int),Iv_ fr,Iv_ tt,Iv_ mo,u] [trA Tb pp mb n o none,grow 55 2 u l.length (AX l)] (fun v Γ=>∃ u2:Value,v= .tuple #[u2,Iv_ 0]∧Γ=[trA Tb pp mb n o none,grow 55 2 u2 (Aj mo.toNat l (Ap fr tt L)).length (AX (Aj mo.toNat l (Ap fr tt L)))]):=by
 induction h with
 | zero=>exact fun ra lo hi m_ L l u=>Yi pp mb n o fr tt mo ra lo hi m_ L l u
 | succ h ih=>exact fun ra lo hi m_ L l u=>Yj pp mb n o fr tt mo h ih ra lo hi m_ L l u
theorem Q1 (pp mb n:Nat) (o:TB) (ra:Nat) (L:List E) (fr tt mo:Int) (hR:Root o.N ra L) (hll:L.length≤1048576):Cn prog 11 [Pt_ pp,Iv_ (ra:Int),Iv_ fr,Iv_ tt,Iv_ mo] [trA Tb pp mb n o none] (fun v Γ=>∃ u2:Value,v= .tuple #[u2,Iv_ 0]∧Γ=[trA Tb pp mb n o none,grow 55 2 u2 (Aj mo.toNat [] (Ap fr tt L)).length (AX (Aj mo.toNat [] (Ap fr tt L)))]):=by
 intro z R w H;replace H:=H.l1;have hRL:ra=0→L=[]:=fun q=>by rcases hR with ⟨_,e⟩|⟨e,_⟩;exact e;exact absurd q e
 refine Ad func11 rfl ntmps11 rfl (Z0 22 [0] rfl (Ak 16 rfl (fun h1=> ?_) (fun h1=> ?_)))
 ·refine Zc 18 rfl (Zr rfl ?_);have h0:(Aj mo.toNat [] (Ap fr tt L))=[]:=by first|(rw[hRL (by omega)];simp[Aj,Ap])|(rw[show mo.toNat=0 by omega];simp[Aj])|(rw[scF_no (fun e _=>by omega)];simp[Aj])
  exact ⟨_,⟨.slice none 0 0,rfl,rfl⟩,by rw[h0];exact (((H.pick 1 [0] rfl).nilg 55 2).f1)⟩
 ·refine Z0 4 [0] rfl (Ak 20 rfl (fun h2=> ?_) (fun h2=> ?_))
  ·refine Zc 14 rfl (Zr rfl ?_);have h0:(Aj mo.toNat [] (Ap fr tt L))=[]:=by first|(rw[hRL (by omega)];simp[Aj,Ap])|(rw[show mo.toNat=0 by omega];simp[Aj])|(rw[scF_no (fun e _=>by omega)];simp[Aj])
   exact ⟨_,⟨.slice none 0 0,rfl,rfl⟩,by rw[h0];exact (((H.pick 1 [0] rfl).nilg 55 2).f1)⟩
  ·refine Z0 6 [0] rfl (Af rfl (fun h3=> ?_) (fun h3=> ?_))
   ·refine Zc 7 rfl (Zr rfl ?_);have h0:(Aj mo.toNat [] (Ap fr tt L))=[]:=by first|(rw[hRL (by omega)];simp[Aj,Ap])|(rw[show mo.toNat=0 by omega];simp[Aj])|(rw[scF_no (fun e _=>by omega)];simp[Aj])
    exact ⟨_,⟨.slice none 0 0,rfl,rfl⟩,by rw[h0];exact (((H.pick 1 [0] rfl).nilg 55 2).f1)⟩
   ·refine Zc 3 rfl ?_;replace H:=(H.nilg 55 2).l2
    obtain ⟨_,h,hT⟩:=hR.resolve_left (fun q=>by have:=q.1;omega);refine Zc 6 rfl (Ar rfl (call36 _) (YZ _ _ _ _ _ _ _ h ra _ _ _ L [] _ hT (by simpa using hll)) H.f1 ?_);rintro _ w _ ⟨u2,rfl,rfl⟩ H;refine Zc 7 rfl (Zr rfl ?_);exact ⟨_,⟨u2,rfl,rfl⟩,H.pick 2 [0,1] rfl⟩
end
open Go.RowKit
set_option maxHeartbeats 2000000 in
theorem Wm (pm:Nat) (L:List E) (fr tt mo:Int) (hL:L.length≤1048576):Cn prog 13 [Pt_ pm,Iv_ fr,Iv_ tt,Iv_ mo] [mpA pm L] (fun v Γ=>∃ u:Value,v=u∧Γ=[mpA pm L,grow 55 2 u (Aj mo.toNat [] (Ap fr tt L)).length (AX (Aj mo.toNat [] (Ap fr tt L)))]):=by
 intro z R w H;replace H:=H.l1;refine Ad func13 rfl ntmps13 rfl (Zc 1 rfl ?_);obtain ⟨v_,H⟩:=(H.pick 1 [0] rfl).mp;replace H:=H.l2;obtain ⟨ao,oc,rfl⟩:=H.says 1 rfl (fun h q=>q.rd.slc);have hcp_ao:=H.says 1 rfl (fun h q=>q.rd.slcapZ)
 have H:Sep z (blk pm [.slice ao L.length oc] 76::grow 55 2 (.slice ao L.length oc) L.length (AX L)::R) w:=H
 refine Zc 11 rfl ?_;replace H:=(H.nilg 55 2).l3
 refine Zc 5 rfl ?_;refine AH (σ:=Nat×Value) (fun ⟨i,u⟩=>[(10,Iv_ (i:Int)),(9,u),(0,Pt_ pm),(1,Iv_ fr),(2,Iv_ tt),(3,Iv_ mo),(8,.slice none 0 0)])
   (fun ⟨i,u⟩ w=>Sep z (grow 55 2 u ((Aj mo.toNat [] (Ap fr tt (L.take i))).length) (AX (Aj mo.toNat [] (Ap fr tt (L.take i))))::blk pm [.slice ao L.length oc] 76::grow 55 2 (.slice ao L.length oc) L.length (AX L)::R) w∧(i≤L.length)) (fun ⟨i,u⟩=>L.length - i) ⟨0,.slice none 0 0⟩
   (fun _ hF=>(hF.co rfl (by go_num) (hF.co rfl (by go_num) (hF.all rfl)))) ⟨(by simpa [Aj,Ap,AX] using H),by omega⟩ ?_
 clear H;rintro ⟨i,u⟩ w ⟨H',hI⟩;dsimp only at hI H' ⊢
 have H:=H'.l3;have su:=H.says 0 rfl (fun h q=>q.slc)
 have hi:=hI;clear hI
 refine Z2 12 [0,1,0,0] H rfl (Af rfl (fun h1=> ?_) (fun h1=> ?_))
 ·refine Zc 5 rfl ?_;obtain ⟨e,he⟩:∃ e,L[i]? =some e:=⟨_,List.getElem?_eq_getElem (by omega)⟩;have hat0:=(H.rd 2 rfl (fun h q=>q.rd)).at (Ca he).1
  have hat1:=(H.rd 2 rfl (fun h q=>q.rd)).at (Ca he).2
  have htk:L.take (i+1)=L.take i++[e]:=by rw[List.take_add_one,he];rfl
  refine Zc 2 rfl (Ab rfl (CI rfl (sz:=2) (by kernel_rfl) rfl su) (Z0 3 [0] rfl (Ak 24 rfl (fun h2=> ?_) (fun h2=> ?_))))
  ·refine Z2 5 [0,1,0] H rfl (Ab rfl (Ao rfl (z:=2) (j:=i) (r:=i * 2) (by kernel_rfl) rfl rfl rfl (by omega) hat0 (by omega)) (Ab rfl (ER rfl (k:=0) (r:=i * 2) (by kernel_rfl) rfl hat0 rfl) (Ab rfl (Az rfl rfl (by kernel_rfl) (Av hat0)) (Z0 4 [0] rfl (Ak 36 rfl (fun h3=> ?_) (fun h3=> ?_))))))
   ·refine Z2 5 [0,1,0] H rfl (Ab rfl (Ao rfl (z:=2) (j:=i) (r:=i * 2) (by kernel_rfl) rfl rfl rfl (by omega) hat0 (by omega)) (Ab rfl (ER rfl (k:=0) (r:=i * 2) (by kernel_rfl) rfl hat0 rfl) (Ab rfl (Az rfl rfl (by kernel_rfl) (Av hat0)) (Z0 5 [0] rfl (Af rfl (fun h4=> ?_) (fun h4=> ?_))))))
    ·refine Z2 7 [0,1,0] H rfl (Ab rfl (Ao rfl (z:=2) (j:=i) (r:=i * 2) (by kernel_rfl) rfl rfl rfl (by omega) hat0 (by omega)) (Ab rfl (Co rfl rfl (vs:=[Iv_ e.1,Iv_ (e.2:Int)]) (by kernel_rfl) (by simp) (Av (fun k u hk=>by rcases k with _|_|k<;>simp at hk<;>subst hk<;>assumption))) (AO rfl (AI H rfl (by kernel_rfl) AP rfl (by decide) (by decide) (out:=[Iv_ e.1,Iv_ (e.2:Int)]) (by kernel_rfl)) ?_)));rintro _ w ⟨b1,rfl,H⟩;replace H:=H.l4;refine AO rfl (AY 1 H rfl rfl (by kernel_rfl) AP rfl rfl (H.rd 0 rfl (fun h q=>q.rd (by omega) (by omega) (by simp) rfl)) (by simp[Value.oneCell']) (by have:=FV mo.toNat [] (Ap fr tt (L.take i));have:=FW fr tt (L.take i);rw[List.length_take] at this;simp only[List.length_nil] at *;omega)) ?_;rintro v2 w H';have H':Sep z (blk b1 [Iv_ e.1,Iv_ (e.2:Int)] 55::grow 55 2 v2 ((Aj mo.toNat [] (Ap fr tt (L.take i))).length+1) (AX (Aj mo.toNat [] (Ap fr tt (L.take i)))++[Iv_ e.1,Iv_ (e.2:Int)])::blk pm [.slice ao L.length oc] 76::grow 55 2 (.slice ao L.length oc) L.length (AX L)::R) w:=H'
     have ev2:(AX (Aj mo.toNat [] (Ap fr tt (L.take i)))++[Iv_ e.1,Iv_ (e.2:Int)]:List Value)=AX (Aj mo.toNat [] (Ap fr tt (L.take (i+1)))):=(by rw[htk,Et (by omega) ⟨by omega,by omega⟩,Fx];rfl)
     rw[ev2] at H';rw[show ((Aj mo.toNat [] (Ap fr tt (L.take i))).length+1:Nat)=(Aj mo.toNat [] (Ap fr tt (L.take (i+1)))).length from (by rw[htk,Et (by omega) ⟨by omega,by omega⟩,List.length_append];rfl)] at H';have H:=H'.l4;have sv2:=H.says 1 rfl (fun h q=>q.slc)
     refine Z1 9 [] [(i:Int)+1] rfl (by omega) ?_;replace H:=H.d;refine gf ?_;intro _ hF;refine ⟨⟨i+1,v2⟩,(hF.co rfl (by go_num) (hF.all rfl)),⟨H,?_⟩,?_⟩
     ·omega
     ·(dsimp only;omega)
    ·refine Z1 8 [] [(i:Int)+1] rfl (by omega) (gf ?_);intro _ hF;refine ⟨⟨i+1,u⟩,(hF.co rfl (by go_num) (hF.all rfl)),⟨(by rw[show (Aj mo.toNat [] (Ap fr tt (L.take (i+1))))=(Aj mo.toNat [] (Ap fr tt (L.take i))) from by rw[htk];exact BV (by first|exact .inl (by omega)|exact .inr (fun x hx=>by simp at hx;subst hx;omega))];exact H),?_⟩,?_⟩
     ·omega
     ·(dsimp only;omega)
   ·refine Z1 22 [] [(i:Int)+1] rfl (by omega) (gf ?_);intro _ hF;refine ⟨⟨i+1,u⟩,(hF.co rfl (by go_num) (hF.all rfl)),⟨(by rw[show (Aj mo.toNat [] (Ap fr tt (L.take (i+1))))=(Aj mo.toNat [] (Ap fr tt (L.take i))) from by rw[htk];exact BV (by first|exact .inl (by omega)|exact .inr (fun x hx=>by simp at hx;subst hx;omega))];exact H),?_⟩,?_⟩
    ·omega
    ·(dsimp only;omega)
  ·refine Z1 34 [] [(i:Int)+1] rfl (by omega) (gf ?_);intro _ hF;refine ⟨⟨i+1,u⟩,(hF.co rfl (by go_num) (hF.all rfl)),⟨(by rw[show (Aj mo.toNat [] (Ap fr tt (L.take (i+1))))=(Aj mo.toNat [] (Ap fr tt (L.take i))) from by rw[htk];exact BV (by first|exact .inl (by omega)|exact .inr (fun x hx=>by simp at hx;subst hx;omega))];exact H),?_⟩,?_⟩
   ·omega
   ·(dsimp only;omega)
 ·refine Zc 2 rfl (gx (Zc 9 rfl (Zr rfl ?_)));rw[show L.take i=L from List.take_of_length_le (by omega)] at H;exact ⟨_,⟨_,rfl,rfl⟩,(H.pick 3 [1,2,0] rfl).toMp⟩
theorem Y0 (A B:Ae) (u w_:Value) (X:List E) (hA:∀ h,A h→rdH 2 u X.length (AX X) h) (hB:∀ h,B h→rdH 2 w_ X.length (AX X) h):Cn prog 12 [u,w_] [A,B] (fun v Γ=>v= .bool true∧Γ=[A,B]):=by
 intro z R w H;replace H:=H.l2;obtain ⟨ua,uc,rfl⟩:=H.says 0 rfl (fun h q=>(hA h q).slc);have hcap:=H.says 0 rfl (fun h q=>(hA h q).slcapZ)
 obtain ⟨wa,wc,rfl⟩:=H.says 1 rfl (fun h q=>(hB h q).slc);refine Ad func12 rfl ntmps12 rfl (Z0 15 [0] rfl (Af rfl (fun h1=> ?_) (fun h1=> ?_)))
 ·(exfalso;omega)
 ·refine Zc 9 rfl ?_;refine AH (σ:=Nat) (fun i=>[(5,Iv_ (i:Int)),(0,.slice ua X.length uc),(1,.slice wa X.length wc)])
    (fun i w=>Sep z (A::B::R) w∧(i≤X.length)) (fun i=>X.length - i) 0
    (fun _ hF=>(hF.co rfl (by go_num) (hF.all rfl))) ⟨H,Nat.zero_le _⟩ ?_
  clear H;rintro i w ⟨H',hI⟩;have H:=H'.l2;have hil:=hI;clear hI
  refine Z0 9 [0] rfl (Af rfl (fun h2=> ?_) (fun h2=> ?_))
  ·refine Zc 5 rfl ?_;obtain ⟨e,he⟩:∃ e,X[i]? =some e:=⟨_,List.getElem?_eq_getElem (by omega)⟩;have hu0:=(H.rd 0 rfl hA).at (Ca he).1
   have hm0:=(H.rd 1 rfl hB).at (Ca he).1
   refine Bf (Sep z _) (by kernel_rfl) (by kernel_rfl) H.drew (B3 2 [] rfl (by kernel_rfl) (A4 rfl rfl rfl (Ao rfl (z:=2) (j:=i) (r:=i * 2) (by kernel_rfl) rfl rfl rfl (by omega) hu0 (by omega)) (A4 rfl rfl rfl (Co rfl rfl (vs:=[Iv_ e.1,Iv_ (e.2:Int)]) (by kernel_rfl) (by simp) (fun _ hx' k u hk=>by rcases k with _|_|k<;>simp at hk<;>subst hk<;>first|exact (hx'.rd 0 rfl hA).at (Ca he).1|exact (hx'.rd 0 rfl hA).at (Ca he).2)) (B3 2 [] rfl (by kernel_rfl) (A4 rfl rfl rfl (Ao rfl (z:=2) (j:=i) (r:=i * 2) (by kernel_rfl) rfl rfl rfl (by omega) hm0 (by omega)) (A4 rfl rfl rfl (Co rfl rfl (vs:=[Iv_ e.1,Iv_ (e.2:Int)]) (by kernel_rfl) (by simp) (fun _ hx' k u hk=>by rcases k with _|_|k<;>simp at hk<;>subst hk<;>first|exact (hx'.rd 1 rfl hB).at (Ca he).1|exact (hx'.rd 1 rfl hB).at (Ca he).2)) (A4 rfl rfl rfl (QN (cs:= #[Iv_ e.1,Iv_ (e.2:Int)]) rfl (by kernel_rfl) (by kernel_rfl) (by kernel_rfl) rfl rfl) (Br (fun w H'=> ?_)))))))));have H:=H'.l2;refine gn (Z1 10 [] [(i:Int)+1] rfl (by omega) (gf ?_));intro _ hF;refine ⟨(i+1),(hF.co rfl (by go_num) (hF.all rfl)),⟨H,?_⟩,?_⟩
   ·omega
   ·omega
  ·refine Zc 2 rfl (gx (Zc 8 rfl (Zr rfl ?_)));exact ⟨_,⟨rfl,rfl⟩,H.pick 2 [0,1] rfl⟩
section
open Go.RowKit
variable {Tb:Ae}
theorem To {L:List E} (h:Bt 0 1048576 L) (hl:L.length≤1000):Aj (1000:Int).toNat [] (Ap 0 1048576 L)=L:=by
 rw[Om h];unfold Aj;rw[List.nil_append,List.take_of_length_le (by simpa using hl)]
theorem KZ (pm pp mb n:Nat) (o:TB) (ra:Nat) (L:List E) (hR:Root o.N ra L) (hl:L.length≤1000):Cn prog 25 [Pt_ pp,Iv_ (ra:Int),Pt_ pm] [mpA pm L,trA Tb pp mb n o none] (fun v Γ=>v= .bool true∧Γ=[mpA pm L,trA Tb pp mb n o none]):=by
 intro z R w H;replace H:=H.l2;refine Ad func25 rfl ntmps25 rfl (Zc 9 rfl (Ar rfl (call11 _) (Q1 _ _ _ o ra L _ _ _ hR (by omega)) H.f1 ?_));rintro _ w _ ⟨us,rfl,rfl⟩ H;replace H:=H.l3;have sus:=H.says 1 rfl (fun h q=>q.rd.slc)
 refine Zc 8 rfl ?_;rw[To hR.srt.2 hl] at H sus;have H:Sep z (trA Tb pp mb n o none::grow 55 2 us L.length (AX L)::mpA pm L::R) w:=H
 obtain ⟨v_,H⟩:=(H.pick 3 [2,0,1] rfl).mp;replace H:=H.l4;obtain ⟨ao,oc,rfl⟩:=H.says 1 rfl (fun h q=>q.rd.slc);have hcp_ao:=H.says 1 rfl (fun h q=>q.rd.slcapZ)
 have H:Sep z (blk pm [.slice ao L.length oc] 76::grow 55 2 (.slice ao L.length oc) L.length (AX L)::trA Tb pp mb n o none::grow 55 2 us L.length (AX L)::R) w:=H
 refine Z2 6 [0,0,0] H rfl (z_E_ rfl (call12 _) (Y0 _ _ _ _ L (fun h q=>q.rd) (fun h q=>q.rd)) H.f1.f3 ?_);intro w H;refine Z0 14 [3] rfl (Zr rfl ?_);exact ⟨_,⟨rfl,rfl⟩,((H.pick 4 [2,1,3] rfl).toMp)⟩
theorem Oo (pp mb n:Nat) (o:TB) (s:TS×List Nat):Cn prog 41 [Pt_ pp] [trA Tb pp mb n o (some s)] (fun v Γ=>v=Iv_ 0∧Γ=[trA Tb pp mb n o (some s)]):=by
 intro z R w H;replace H:=H.l1;refine Ad func41 rfl ntmps41 rfl (Zc 19 rfl (z_E_ rfl (call81 _) (J9 pp mb n o _) H ?_));intro w H;replace H:=H.l1;refine AJ 6 (v:= .bool true) rfl rfl (Zc 12 rfl (Zr rfl ?_));exact ⟨_,⟨rfl,rfl⟩,H⟩
theorem MY (pp mb n:Nat) (o:TB):Cn prog 41 [Pt_ pp] [trA Tb pp mb n o none] (fun v Γ=>v=Iv_ 18∧Γ=[trA Tb pp mb n o none]):=by
 intro z R w H;replace H:=H.l1;refine Ad func41 rfl ntmps41 rfl (Zc 19 rfl (z_E_ rfl (call81 _) (J9 pp mb n o _) H ?_));intro w H;replace H:=H.l1;refine AJ 6 (v:= .bool false) rfl rfl (Zc 10 rfl (Zr rfl ?_));exact ⟨_,⟨rfl,rfl⟩,H⟩
theorem Wn (pp mb n:Nat) (o:TB) (s:Value):Cn prog 22 [Pt_ pp,s] [trA Tb pp mb n o none] (fun v Γ=>v= .tuple #[.slice none 0 0,Iv_ 18]∧Γ=[trA Tb pp mb n o none]):=by
 intro z R w H;replace H:=H.l1;refine Ad func22 rfl ntmps22 rfl (Zc 10 rfl (z_E_ rfl (call41 _) (MY _ _ _ _) H ?_));intro w H;refine Z0 18 [3] rfl (Zr rfl ?_);exact ⟨_,⟨rfl,rfl⟩,H⟩
end
open Go.RowKit
theorem Yk {L:List E} (hs:Srt L) (h:∀ j,j∈kL L↔j∈(([3,9]:List Int).take 80).map fun x=>(pkI x 100:Int)):∃ v1 v2,L=[(3,v1),(9,v2)]:=by
 have e:kL L=[3,9]:=Ol (Wh hs) (by decide) (fun j=>by rw[h j,show ((([3,9]:List Int).take 80).map fun x=>(pkI x 100:Int))=[3,9] from by decide+kernel])
 match L,e with
 | [(a,x),(b,y)],e=>
  simp[kL] at e
  obtain ⟨rfl,rfl⟩:=e
  exact ⟨x,y,rfl⟩
theorem T7 {n:Nat} (hn:n≤511):Root (Iu n).N 0 []:= .inl ⟨rfl,rfl⟩
set_option maxHeartbeats 2000000 in
theorem IW (Tb:Ae) (hT:GT Tb):Cn prog 14 [] [Tb] (fun v Γ=>v= .bool true∧Γ=[Tb]):=by
 intro z R w H;replace H:=H.l1;refine Ad func14 rfl ntmps14 rfl (Zc 7 rfl (Ar rfl (call9 _) (MU 64 (by omega) Tb hT) H ?_));rintro _ w _ ⟨pp,rfl,rfl⟩ H;refine Zc 16 rfl (AO rfl (AI H rfl (by kernel_rfl) Bb rfl (by decide) (by decide) (out:=[Iv_ 3,Iv_ 9]) (by kernel_rfl)) ?_);rintro _ w ⟨b1,rfl,H⟩;replace H:=H.l2;refine Ar rfl (call10 _) (On _ 6 64 (Iu 64) _ ([]) 0 [] _ ([3,9]) (fun h q=>⟨q.rd (by omega) (by omega) (by simp) rfl,fun x hx=>by simp at hx;omega⟩) (T6 (by omega)) rfl (T7 (by omega)) (by decide+kernel) (by omega)) H.f1 ?_;rintro _ w _ ⟨pm,ra,L,o2,m2,hG,rfl,rfl⟩ H;refine Zc 20 rfl ?_;obtain ⟨w1,w2,rfl⟩:=Yk hG.I.root.srt.1 hG.k;refine Zc 3 rfl (Ar rfl (call11 _) (Q1 _ _ _ o2 ra [(3,w1),(9,w2)] _ _ _ hG.I.root (by simp)) H.f1 ?_);rintro _ w _ ⟨us,rfl,rfl⟩ H;replace H:=H.l4;have sus:=H.says 1 rfl (fun h q=>q.rd.slc)
 refine Zc 12 rfl (z_E_ rfl (call25 _) (KZ _ _ _ _ _ _ ([(3,w1),(9,w2)]:List E) hG.I.root (by simp)) H.f2 ?_);intro w H;refine Zc 7 rfl (AO rfl (AI H rfl (by kernel_rfl) Bb rfl (by decide) (by decide) (out:=[Iv_ (ra:Int)]) (by kernel_rfl)) ?_);rintro _ w ⟨b2,rfl,H⟩;replace H:=H.l5;refine z_E_ rfl (call22 _) (Wn _ _ _ _ _) H.f2 ?_;intro w H;refine Zc 8 rfl ?_;rw[show Aj (5:Int).toNat [] (Ap 4 100 [(3,w1),(9,w2)])=[(9,w2)] from by simp[Aj,Ap]] at H sus;obtain ⟨ua,uc,rfl⟩:=sus;have hu0:=(H.rd 3 rfl (fun h q=>q.rd)).at (Ca (L:=[(9,w2)]) (j:=0) rfl).1
 refine Z0 10 [3,3] rfl (Ab rfl (Ao rfl (z:=2) (j:=0) (r:=0) (by kernel_rfl) rfl rfl rfl (by simp) hu0 (by omega)) (Ab rfl (ER rfl (k:=0) (r:=0) (by kernel_rfl) rfl hu0 rfl) (Ab rfl (Az rfl rfl (by kernel_rfl) (Av hu0)) (Z0 13 [3,3] rfl (Zr rfl ?_)))));exact ⟨_,⟨rfl,rfl⟩,((H.pick 5 [0] rfl).trTab).2⟩
section
open Go.ChangeShapes Go.WideShapes Go.ChangeAt Go.RowKit Go.Joins
theorem own:ownKnob prog.godebug=none:=by kernel_rfl
theorem Oq:laidOutB prog=true:=by kernel_rfl
theorem int_cells:prog.cellsOf 3=1:=by kernel_rfl
theorem Tp {H:Type} {enc:TypeId×Value→H} {W:World} {fuel:Nat} {v:Value} {d:DataW H} {p:List MemPlace} (h:DataW.trod enc prog W 0 (fun _=>true) true fuel 22 [v]=some (d,p)):∃ xs:List Int,Rd 1 v xs.length (xs.map (Value.int .i64)) W∧xs.length≤Rows.uptoBulk d∧∀ x∈xs,(Lit.int .i64 x).wf=true:=by
 have hall:∀ (l:List Int),l.length≤Rows.uptoBulkAll (lits (H:=H) .i64 l):=fun l=>by
  induction l with
  | nil=>simp
  | cons x l ih=>simp only[lits,List.map_cons,Rows.uptoBulkAll,Rows.uptoBulk,List.length_cons] at ih ⊢;omega
 rcases open_ints underlying22 underlying3 int_cells h with ⟨hcs,hx⟩|⟨a,len,cap,zs,hcs,_,hl,hm,hz,hx,hcell,hwf⟩
 ·simp only[List.cons.injEq,and_true] at hcs;subst hcs;exact ⟨[],by simpa using Rd.nil 1 W,by simp,by simp⟩
 ·simp only[List.cons.injEq,and_true] at hcs;subst hcs
  simp only[if_true] at hz
  have hd:d= .slice (lits .i64 (zs.take len)) (lits .i64 (zs.drop len)):=by have:=congrArg Prod.fst hx;simpa using this
  refine ⟨zs.take len,⟨some a,cap,by simp[hz,Nat.min_eq_left hl],by simp[hz,Nat.min_eq_left hl,hl],(by unfold maxLen at hm;omega),by simp,fun j u hj=> ?_⟩,?_,fun x hx=>hwf x (List.mem_of_mem_take hx)⟩
  ·rw[List.getElem?_map] at hj
   obtain ⟨y,hy,rfl⟩:=Option.map_eq_some_iff.1 hj
   have hjl:j<len:=by
    have:=(List.getElem?_eq_some_iff.1 hy).1
    simp at this;omega
   have hy':zs[j]? =some y:=by rw[List.getElem?_take] at hy;simpa [hjl] using hy
   have hc:=hcell j (by omega)
   rw[show zs.getD j 0=y from by simp[List.getD,hy']] at hc
   obtain ⟨b,off,spot⟩:=a
   have hspot:spot=none:=by
    have h0:=hcell 0 (by omega)
    simpa [Addr.add] using World.cell?_spot h0
   subst hspot
   exact ⟨b,off,rfl,by unfold EJ;rw[←Go.WideShapes.add_plain];exact hc⟩
  ·rw[hd];have:=hall (zs.take len);simp only[Rows.uptoBulk];omega
def K0:DataW Unit→List Value
 | .lit (.int k n)=>[.int k n]
 | .agg parts=>flatWs parts
 | _=>[]
where flatWs:List (DataW Unit)→List Value
 | []=>[]
 | d::ds=>K0 d++flatWs ds
def Tq:Obj→Obj
 | .cells c t frozen=> .cells (if c.size=32 then (K0 Rows.laid_unicode_utf8_acceptRanges).toArray else if c.size=64 then (K0 Rows.laid_math_bits_deBruijn64tab).toArray else (K0 Rows.laid_unicode_utf8_first).toArray) t frozen
 | o=>o
noncomputable def HF (os:Os):World:=
 { World.holding prog os ⟨#[],#[],[]⟩ with heap:=(((World.holding prog os ⟨#[],#[],[]⟩).heap.modify 0 Tq).modify 1 Tq).modify 2 Tq }
abbrev Y1 (x:Int):Prop:= -9223372036854775808≤x∧x≤9223372036854775807
theorem Y2 {n:Int} (h:(Lit.int .i64 n).wf=true):Y1 n:=by
 simp only[Lit.wf,Bool.and_eq_true,decide_eq_true_eq] at h
 have h1:IntKind.i64.min= -9223372036854775808:=by decide
 have h2:IntKind.i64.max=9223372036854775807:=by decide
 rw[h1,h2] at h
 exact h
theorem Yl:prog.globalNamed "math/bits.deBruijn64tab"=some 0:=by kernel_rfl
theorem Ts:(prog.globals[0]?).map (·.type)=some 227:=by kernel_rfl
theorem Wo:prog.cellsOf 227=64:=by kernel_rfl
theorem Wp:prog.cellsOf 5=1:=by kernel_rfl
def tzL:List Int:=Lib.deBruijn64tab.map Int.ofNat
theorem Pi {W:World} (h:laidMetH prog Rows.rangesScanUptoRow.laid W):Lib.TabIs prog W "math/bits.deBruijn64tab" .u8 tzL:=
 Lib.tabIs_of_head (rest:=[("unicode/utf8.acceptRanges",Rows.laid_unicode_utf8_acceptRanges),("unicode/utf8.first",Rows.laid_unicode_utf8_first)]) Yl Ts underlying227 underlying5 Wp Wo h
theorem Kh {W:World} (h:Lib.TabIs prog W "math/bits.deBruijn64tab" .u8 tzL):∃ t fr,W.heap[0]? =some (.cells (tzL.map fun z=>Value.int .u8 z).toArray t fr):=by
 unfold Lib.TabIs World.var? at h
 rw[Yl] at h
 simp only[Option.bind_some] at h
 cases e:W.heap[0]? with
 | none=>rw[e] at h;cases h
 | some o=>
  rw[e] at h
  cases o<;>simp at h
  subst h;exact ⟨_,_,rfl⟩
def Ij (W:World):Ae:=fun h=>∀ k,k<W.heap.size→k≠0→h k=W.heap[k]?
def MZ (W:World):Ae:=fun h=>h 0=W.heap[0]?
theorem Ym:(List.range 64).all (fun j=>tzL[j]? == some ((PZ j).toNat:Int))=true:=by decide+kernel
theorem Y3 {W:World} (ht:Lib.TabIs prog W "math/bits.deBruijn64tab" .u8 tzL):GT (MZ W):=fun h hh j hj=>by
 obtain ⟨t,fr,e⟩:=Kh ht
 have:=List.all_eq_true.1 Ym j (List.mem_range.2 hj)
 have h2:tzL[j]? =some ((PZ j).toNat:Int):=by simpa using this
 exact ⟨_,t,fr,(show h 0=_ from hh).trans e,by simp[h2,u8]⟩
theorem Wq {W:World} (ht:Lib.TabIs prog W "math/bits.deBruijn64tab" .u8 tzL):0<W.heap.size:=by
 obtain ⟨t,fr,e⟩:=Kh ht
 rcases Nat.eq_zero_or_pos W.heap.size with q|q
 ·rw[Array.getElem?_eq_none (by omega)] at e;cases e
 ·exact q
theorem Q3 {W:World} (ht:Lib.TabIs prog W "math/bits.deBruijn64tab" .u8 tzL) {b o:Nat} {v:Value} (hc:EJ b o v W) (hv:∀ x,v≠ .int .u8 x):∀ h,Ij W h→celH h b o v:=fun h hb=>by
 have hne:b≠0:=fun e=>by
  subst e
  obtain ⟨t,fr,e⟩:=Kh ht
  unfold EJ World.cell? at hc
  rw[e] at hc
  simp at hc
  obtain ⟨z,_,hz⟩:=hc
  exact hv _ hz.symm
 unfold EJ World.cell? at hc
 cases hh:W.heap[b]? with
 | none=>rw[hh] at hc;simp at hc
 | some o'=>
  rw[hh] at hc
  cases o' with
  | cells cs ty fr=>
   simp at hc
   have hlt:b<W.heap.size:=by
    rcases Nat.lt_or_ge b W.heap.size with q|q
    ·exact q
    ·rw[Array.getElem?_eq_none q] at hh;cases hh
   exact ⟨cs,ty,fr,(hb b hlt hne).trans hh,hc⟩
  | _=>simp at hc
theorem Tt {sz:Nat} {v:Value} {n:Nat} {xs:List Value} {W:World} (ht:Lib.TabIs prog W "math/bits.deBruijn64tab" .u8 tzL) (r:Rd sz v n xs W) (hx:∀ u∈xs,∀ x,u≠ .int .u8 x):∀ h,Ij W h→rdH sz v n xs h:=fun h hb=>by
 obtain ⟨ao,c,e,h1,h2,h3,h4⟩:=r
 exact ⟨ao,c,e,h1,h2,h3,fun j u hj=>by
  obtain ⟨b,p,e',hc⟩:=h4 j u hj
  exact ⟨b,p,e',Q3 ht hc (hx u (List.mem_of_getElem? hj)) h hb⟩⟩
theorem Or {h:Hp} {own:Nat→Nat} {i k:Nat} {o:Obj} (e:h.part own i k=some o):h k=some o:=by
 unfold Hp.part at e
 split at e
 ·exact e
 ·cases e
theorem Cn.run2 {P:Program} {f:FuncId} {args:List Value} {W:World} {u:Value} (h0:0<W.heap.size) (h:Cn P f args [Ij W,MZ W] (fun v Γ=>v=u∧Γ=[Ij W,MZ W])):Calls P f args.toArray W (Ret fun v W'=>v=u∧Ext No W W'):=by
 have hS:Sep W [Ij W,MZ W] W:=⟨rfl,rfl,rfl,fun q=>if q=0 then 1 else 0,fun i A hA=>by
  match i,hA with
  | 0,hA=>cases hA;intro k hk hne;simp[Hp.part,hp,hne]
  | 1,hA=>cases hA;show Hp.part _ _ _ 0=_;simp[Hp.part,hp]⟩
 refine Ret.mono (h W [] W hS) ?_
 rintro v W' ⟨Γ,⟨rfl,rfl⟩,H⟩
 obtain ⟨own,hown⟩:=H.own
 have hb:=hown 0 _ rfl
 have ht:=hown 1 _ rfl
 have hall:∀ k,k<W.heap.size→hp W' k=W.heap[k]? :=fun k hk=>by
  obtain ⟨o,ho⟩:∃ o,W.heap[k]? =some o:=⟨_,Array.getElem?_eq_getElem hk⟩
  rw[ho]
  by_cases q:k=0
  ·subst q;exact Or ((show _=_ from ht).trans ho)
  ·exact Or ((hb k hk q).trans ho)
 have H2:Sep W [base W] W':=⟨H.os,H.tape,H.output,fun k=>if k<W.heap.size then 0 else 1,fun i A hA=>by
  match i,hA with
  | 0,hA=>cases hA;intro k hk;unfold Hp.part;rw[if_pos (by simp[hk])];exact hall k hk⟩
 exact ⟨rfl,Sep.done 0 H2 rfl⟩
section
variable {H:Type} {enc:TypeId×Value→H} {P:Program} {w:World} {base:Nat} {spare:Nat→Bool} {held:Bool}
end
section
variable {H:Type} {enc:TypeId×Value→H} {P:Program} {w:World} {base:Nat} {spare:Nat→Bool} {held:Bool}
theorem Y4 {t0 t1:TypeId} {args:Array Value} {ds:List (DataW H)} {ps:List MemPlace} (h:DataW.TrodAll enc P w base spare held [t0,t1] args.toList ds ps):
  ∃ v0 v1 d0 d1 p0 p1,args= #[v0,v1]∧ds=[d0,d1]∧ps=p0++p1∧DataW.Trod enc P w base spare held t0 v0 d0 p0∧DataW.Trod enc P w base spare held t1 v1 d1 p1:=by
 obtain ⟨v0,vs0,d0,ds0,p0,q0,hargs,rfl,rfl,hd0,hr0⟩:=trodAll_cons h
 obtain ⟨v1,vs1,d1,ds1,p1,q1,rfl,rfl,rfl,hd1,hr1⟩:=trodAll_cons hr0
 obtain ⟨rfl,rfl,rfl⟩:=trodAll_nil hr1
 exact ⟨v0,v1,d0,d1,p0,p1,by cases args;simp_all,rfl,by simp,hd0,hd1⟩
theorem Wr {t0 t1:TypeId} {v0 v1:Value} {d0 d1:DataW H} {p0 p1:List MemPlace} (h0:DataW.Trod enc P w base spare held t0 v0 d0 p0) (h1:DataW.Trod enc P w base spare held t1 v1 d1 p1):DataW.TrodAll enc P w base spare held [t0,t1] [v0,v1] [d0,d1] (p0++p1):=
 ⟨p0,_,h0,(trodAll_mk1 h1),rfl⟩
end
section
variable {H:Type} {enc:TypeId×Value→H} {P:Program} {w:World} {base:Nat} {spare:Nat→Bool} {held:Bool}
end
end
section
open Go.RowKit
section
variable {P:Program} {o:Oper} {w z:World} {Γ:List Ae} {n:Nat} {ds:List Deferred} {L:List (Nat×Value)} {v u:Value} {x y:Operand}
end
/-! ### counting -/
variable {n f:Nat} {N:Hm} {C:Nat→Nat} {R:List Nat}
end
section
open Go.RowKit
section late
variable {P:Program} {ops:Array Oper} {Q:Exit→Act→World→Prop} {S:World→Prop} {E:List Nat}
end late
section late2
variable {P:Program} {ops:List Oper} {N R:Act→World→Prop} {X:Nat→Act→World→Prop} {S:World→Prop} {E:List Nat} {a:Act} {w:World} {fuel:Nat} {listed:Array Bool} {n d i:Nat} {ds:List Deferred} {L:List (Nat×Value)} {v:Value} {o:Oper}
end late2
section
variable {P:Program} {C:World→Prop} {o:Oper} {n:Nat} {ds:List Deferred} {L:List (Nat×Value)} {x y:Operand}
end
abbrev PL:=List (Nat×Nat)
abbrev pgs (P:PL):List Nat:=P.map Prod.fst
section
variable {n f:Nat} {t t2 ts:TS} {P:PL} {Q:List Nat} {B r h:Nat} {es:List E}
end
end
section
open Go.RowKit
variable {Tb:Ae}
end
section
open Go.RowKit
variable {Tb:Ae}
end
section
open Go.RowKit
variable {Tb:Ae}
end
section
open Go.RowKit
variable {Tb:Ae}
end
section
open Go.RowKit
variable {Tb:Ae}
theorem GrR.L80 {n:Nat} {o o2:TB} {a:Nat} {L:List E} {Q:List Nat} {ks:List Int} {mb m2:Nat} (h:GrR n o o2 a L Q (ks.take 80) mb m2):L.length≤80∧m2≤mb+160:=by
 have:=h.l;have h2:=h.m
 rw[List.length_take] at this h2;omega
end
section
open Go.RowKit
variable {Tb:Ae}
set_option maxHeartbeats 4000000 in
theorem Ws (pp mb n:Nat) (o:TB) (T:TT) (fr tt mo:Int) (ra:Nat) (lo hi:Int) (m_:Nat) (L l:List E) (u:Value) (hT:Tr (EH o T) 0 ra lo hi m_ L) (hll:l.length+L.length≤1048576):Cn prog 36 [Pt_ pp,Iv_ (ra:Int),Iv_ fr,Iv_ tt,Iv_ mo,u] [trA Tb pp mb n o T,grow 55 2 u l.length (AX l)] (fun v Γ=>∃ u2:Value,v= .tuple #[u2,Iv_ 0]∧Γ=[trA Tb pp mb n o T,grow 55 2 u2 (Aj mo.toNat l (Ap fr tt L)).length (AX (Aj mo.toNat l (Ap fr tt L)))]):=by
 intro z R w H;replace H:=H.l2;have su:=H.says 1 rfl (fun h q=>q.slc)
 have K:=H.says 0 rfl (fun h a=>trA.k a)
 have hn:=K.hn
 obtain ⟨es,hN,hme,hrg,hok,hLe,hdt⟩:=hT;obtain rfl:es=L:=hLe.symm;have hck:CkN true (kL es) (vL es):=K.i.vok (by omega) hn.2 hN
 have hes8:es.length≤8:=hok.len
 have hra0:=(K.i.nin _ _ hN).1
 refine Ad func36 rfl ntmps36 rfl (Zc 10 rfl (Ar rfl (call50 _) (Fc pp mb n o T ra true es hN) H ?_));rintro _ w _ ⟨nk,nv,rfl,rfl⟩ H;replace H:=H.l4;have snk:=H.says 0 rfl (fun h q=>q.slc)
 obtain ⟨ka,kc,rfl⟩:=snk;have snv:=H.says 1 rfl (fun h q=>q.slc)
 obtain ⟨va,vc,rfl⟩:=snv;refine Za 3 [] H rfl ?_;intro b1 w H;refine Z4 24 [0,4,1,0,0] H rfl ?_;intro w H;refine AH (σ:=Nat×Value) (fun ⟨i,u⟩=>[(29,Iv_ (i:Int)),(5,u),(0,Pt_ pp),(2,Iv_ fr),(3,Iv_ tt),(4,Iv_ mo),(14,Pt_ b1),(28,Iv_ (((kL es).length:Nat):Int))])
   (fun ⟨i,u⟩ w=>Sep z (blk b1 [.bool true,.slice ka ((kL es).length) kc,.slice va ((vL es).length) vc] 92::grow 3 1 (.slice ka ((kL es).length) kc) ((kL es).length) ((kL es).map Iv_)::grow 3 1 (.slice va ((vL es).length) vc) ((vL es).length) ((vL es).map Iv_)::trA Tb pp mb n o T::grow 55 2 u ((Aj mo.toNat l (Ap fr tt (es.take i))).length) (AX (Aj mo.toNat l (Ap fr tt (es.take i))))::R) w∧(i≤es.length)) (fun ⟨i,u⟩=>es.length - i) ⟨0,u⟩
   (fun _ hF=>(hF.co rfl (by go_num) (hF.all rfl))) ⟨(by simpa [Aj,Ap] using H),Nat.zero_le _⟩ ?_
 clear H;rintro ⟨i,u⟩ w ⟨H',hI⟩;dsimp only at hI H' ⊢
 have H:=H'.l5;have su:=H.says 4 rfl (fun h q=>q.slc)
 have hil0:=hI;clear hI
 have hkl:(kL es).length=es.length:=by simp
 have hvl:(vL es).length=es.length:=by simp
 refine Z0 6 [0] rfl (Af rfl (fun h1=> ?_) (fun h1=> ?_))
 ·refine Zc 12 rfl ?_;have hil:i<es.length:=by simp only[List.length_map] at *;omega
  obtain ⟨e,he⟩:∃ e,es[i]? =some e:=⟨_,List.getElem?_eq_getElem hil⟩;have hem:=List.mem_of_getElem? he
  have her:=hrg e hem
  have hka:=(H.rd 1 rfl (fun h q=>q.rd)).at (j:=i) (u:=Iv_ e.1) (by simp[kL,he])
  have hva:=(H.rd 2 rfl (fun h q=>q.rd)).at (j:=i) (u:=Iv_ (e.2:Int)) (by simp[vL,he])
  have hge:=hok.srt.at_ge he
  have htk:es.take (i+1)=es.take i++[e]:=by rw[List.take_add_one,he];rfl
  refine Zc 2 rfl (Ab rfl (CI rfl (sz:=2) (by kernel_rfl) rfl su) (Z0 3 [0] rfl (Ak 37 rfl (fun h2=> ?_) (fun h2=> ?_))))
  ·refine Zc 20 rfl (Zr rfl ?_);have hend:(Aj mo.toNat l (Ap fr tt es))=(Aj mo.toNat l (Ap fr tt (es.take i))):=by have:=BV (m:=mo.toNat) (l:=l) (a:=fr) (b:=tt) (L0:=es.take i) (L2:=es.drop i) (by first|exact .inl (by omega)|exact .inr (fun x hx=> .inr (by have:=hge x hx;omega)));rwa[List.take_append_drop] at this
   exact ⟨_,⟨u,rfl,rfl⟩,by rw[hend];exact H.pick 5 [3,4] rfl⟩
  ·refine Z2 3 [1,0,0] H rfl (Ab rfl (Ao rfl (z:=1) (j:=i) (r:=i) (by kernel_rfl) rfl rfl rfl (by omega) hka (by omega)) (Ab rfl (Az rfl rfl (by kernel_rfl) (Av hka)) (Z0 6 [0] rfl (Af rfl (fun h3=> ?_) (fun h3=> ?_)))))
   ·refine Zc 8 rfl (Zr rfl ?_);have hend:(Aj mo.toNat l (Ap fr tt es))=(Aj mo.toNat l (Ap fr tt (es.take i))):=by have:=BV (m:=mo.toNat) (l:=l) (a:=fr) (b:=tt) (L0:=es.take i) (L2:=es.drop i) (by first|exact .inl (by omega)|exact .inr (fun x hx=> .inr (by have:=hge x hx;omega)));rwa[List.take_append_drop] at this
    exact ⟨_,⟨u,rfl,rfl⟩,by rw[hend];exact H.pick 5 [3,4] rfl⟩
   ·refine Z2 8 [0,0,0,1,0,0] H rfl (Ab rfl (Ao rfl (z:=1) (j:=i) (r:=i) (by kernel_rfl) rfl rfl rfl (by omega) hka (by omega)) (Ab rfl (Az rfl rfl (by kernel_rfl) (Av hka)) (Z0 6 [0] rfl (Af rfl (fun h4=> ?_) (fun h4=> ?_)))))
    ·refine AK (Sep z (blk b1 [.bool true,.slice ka ((kL es).length) kc,.slice va ((vL es).length) vc] 92::grow 3 1 (.slice ka ((kL es).length) kc) ((kL es).length) ((kL es).map Iv_)::grow 3 1 (.slice va ((vL es).length) vc) ((vL es).length) ((vL es).map Iv_)::R)) 15 rfl (by kernel_rfl) (Bc H fun w H'=> ?_)
     have H:=H'.l5;refine AZ [0,1,2,3] [1,0,0] [] (by exact (H.pick 5 [0,1,2] rfl)) rfl (by kernel_rfl) rfl (BC 4 rfl (by kernel_rfl) (by kernel_rfl) (by kernel_rfl) rfl rfl rfl (Ao rfl (z:=1) (j:=i) (r:=i) (by kernel_rfl) rfl rfl rfl (by omega) hka (by omega)) (H.pick 5 [0,1,2] rfl) (BC 5 rfl (by kernel_rfl) (by kernel_rfl) (by kernel_rfl) rfl rfl rfl (Az rfl rfl (by kernel_rfl) (fun _ hx'=>(hx'.rd 1 rfl (fun h q=>q.rd)).at (j:=i) (u:=Iv_ e.1) (by simp[kL,he]))) (H.pick 5 [0,1,2] rfl) (AZ [6,7,8] [2,0,0] [] (by exact (H.pick 5 [0,1,2] rfl)) rfl (by kernel_rfl) rfl (BC 9 rfl (by kernel_rfl) (by kernel_rfl) (by kernel_rfl) rfl rfl rfl (Ao rfl (z:=1) (j:=i) (r:=i) (by kernel_rfl) rfl rfl rfl (by omega) hva (by omega)) (H.pick 5 [0,1,2] rfl) (BC 10 rfl (by kernel_rfl) (by kernel_rfl) (by kernel_rfl) rfl rfl rfl (Az rfl rfl (by kernel_rfl) (fun _ hx'=>(hx'.rd 2 rfl (fun h q=>q.rd)).at (j:=i) (u:=Iv_ (e.2:Int)) (by simp[vL,he]))) (H.pick 5 [0,1,2] rfl) (AZ [11] [] [] (by exact (H.pick 5 [0,1,2] rfl)) rfl (by kernel_rfl) rfl (AE [12] (by kernel_rfl) (by simp) (AB (B6 rfl rfl rfl rfl (AI H rfl (by kernel_rfl) AP rfl (by decide) (by decide) (out:=[Iv_ e.1,Iv_ (e.2:Int)]) (by kernel_rfl)) ?_)))))))));rintro _ w ⟨b2,rfl,H⟩;replace H:=H.l6;refine Ax (H.pick 6 [1,2,3] rfl) (AE [13] (by kernel_rfl) (by simp) (AB (B6 rfl rfl rfl rfl (AY 5 H rfl rfl (by kernel_rfl) AP rfl rfl (H.rd 0 rfl (fun h q=>q.rd (by omega) (by omega) (by simp) rfl)) (by simp[Value.oneCell']) (by have:=FV mo.toNat l (Ap fr tt (es.take i));have:=FW fr tt (es.take i);rw[List.length_take] at this;omega)) ?_)))
     rintro v3 w H';have H':Sep z (blk b2 [Iv_ e.1,Iv_ (e.2:Int)] 55::blk b1 [.bool true,.slice ka ((kL es).length) kc,.slice va ((vL es).length) vc] 92::grow 3 1 (.slice ka ((kL es).length) kc) ((kL es).length) ((kL es).map Iv_)::grow 3 1 (.slice va ((vL es).length) vc) ((vL es).length) ((vL es).map Iv_)::trA Tb pp mb n o T::grow 55 2 v3 ((Aj mo.toNat l (Ap fr tt (es.take i))).length+1) (AX (Aj mo.toNat l (Ap fr tt (es.take i)))++[Iv_ e.1,Iv_ (e.2:Int)])::R) w:=H'
     have ev3:(AX (Aj mo.toNat l (Ap fr tt (es.take i)))++[Iv_ e.1,Iv_ (e.2:Int)]:List Value)=AX (Aj mo.toNat l (Ap fr tt (es.take (i+1)))):=(by rw[htk,Et (by omega) ⟨by omega,by omega⟩,Fx];rfl)
     rw[ev3] at H';rw[show ((Aj mo.toNat l (Ap fr tt (es.take i))).length+1:Nat)=(Aj mo.toNat l (Ap fr tt (es.take (i+1)))).length from (by rw[htk,Et (by omega) ⟨by omega,by omega⟩,List.length_append];rfl)] at H';have H:=H'.l6;have sv3:=H.says 5 rfl (fun h q=>q.slc)
     refine Ax (H.pick 6 [1,2,3] rfl) (AZ [14] [] [] (by exact (H.pick 6 [1,2,3] rfl)) rfl (by kernel_rfl) rfl (a_done (by kernel_rfl) (gn (Z1 7 [] [(i:Int)+1] rfl (by omega) ?_))));replace H:=H.d;refine gf ?_;intro _ hF;refine ⟨⟨i+1,v3⟩,(hF.co rfl (by go_num) (hF.all rfl)),⟨H,?_⟩,?_⟩
     ·show i+1≤es.length;omega
     ·(dsimp only;omega)
    ·refine Z3 35 [0,0,0] [(i:Int)+1] H rfl (by omega) (gf ?_);intro _ hF;refine ⟨⟨i+1,u⟩,(hF.co rfl (by go_num) (hF.all rfl)),⟨(by rw[show (Aj mo.toNat l (Ap fr tt (es.take (i+1))))=(Aj mo.toNat l (Ap fr tt (es.take i))) from by rw[htk];exact BV (.inr (fun x hx=>by simp at hx;subst hx;omega))];exact H),?_⟩,?_⟩
     ·show i+1≤es.length;omega
     ·(dsimp only;omega)
 ·refine Zc 2 rfl (gx (Zc 10 rfl (Zr rfl ?_)));have hend:(Aj mo.toNat l (Ap fr tt es))=(Aj mo.toNat l (Ap fr tt (es.take i))):=by rw[show es.take i=es from List.take_of_length_le (by simp only[List.length_map] at *;omega)]
  exact ⟨_,⟨u,rfl,rfl⟩,by rw[hend];exact H.pick 5 [3,4] rfl⟩
set_option maxHeartbeats 4000000 in
theorem Wt (pp mb n:Nat) (o:TB) (T:TT) (fr tt mo:Int) (h:Nat) (ih:∀ (ra:Nat) (lo hi:Int) (m_:Nat) (L l:List E) (u:Value),Tr (EH o T) h ra lo hi m_ L→l.length+L.length≤1048576→Cn prog 36 [Pt_ pp,Iv_ (ra:Int),Iv_ fr,Iv_ tt,Iv_ mo,u] [trA Tb pp mb n o T,grow 55 2 u l.length (AX l)] (fun v Γ=>∃ u2:Value,v= .tuple #[u2,Iv_ 0]∧Γ=[trA Tb pp mb n o T,grow 55 2 u2 (Aj mo.toNat l (Ap fr tt L)).length (AX (Aj mo.toNat l (Ap fr tt L)))])) (ra:Nat) (lo hi:Int) (m_:Nat) (L l:List E) (u:Value) (hT:Tr (EH o T) (h+1) ra lo hi m_ L) (hll:l.length+L.length≤1048576):Cn prog 36 [Pt_ pp,Iv_ (ra:Int),Iv_ fr,Iv_ tt,Iv_ mo,u] [trA Tb pp mb n o T,grow 55 2 u l.length (AX l)] (fun v Γ=>∃ u2:Value,v= .tuple #[u2,Iv_ 0]∧Γ=[trA Tb pp mb n o T,grow 55 2 u2 (Aj mo.toNat l (Ap fr tt L)).length (AX (Aj mo.toNat l (Ap fr tt L)))]):=by
 intro z R w H;replace H:=H.l2;have su:=H.says 1 rfl (fun h q=>q.slc)
 have K:=H.says 0 rfl (fun h a=>trA.k a)
 have hn:=K.hn
 obtain ⟨es,hN,hme,hrg,hok,hsq⟩:=hT;have hck:CkN false (kL es) (vL es):=K.i.vok (by omega) hn.2 hN
 have hes8:es.length≤8:=hok.len
 have hra0:=(K.i.nin _ _ hN).1
 refine Ad func36 rfl ntmps36 rfl (Zc 10 rfl (Ar rfl (call50 _) (Fc pp mb n o T ra false es hN) H ?_));rintro _ w _ ⟨nk,nv,rfl,rfl⟩ H;replace H:=H.l4;have snk:=H.says 0 rfl (fun h q=>q.slc)
 obtain ⟨ka,kc,rfl⟩:=snk;have snv:=H.says 1 rfl (fun h q=>q.slc)
 obtain ⟨va,vc,rfl⟩:=snv;refine Za 3 [] H rfl ?_;intro b1 w H;refine Z4 24 [0,4,1,0,0] H rfl ?_;intro w H;refine AH (σ:=Nat×Value×List E×List E) (fun ⟨i,u,L0,L2⟩=>[(29,Iv_ (i:Int)),(5,u),(0,Pt_ pp),(2,Iv_ fr),(3,Iv_ tt),(4,Iv_ mo),(14,Pt_ b1),(28,Iv_ (((kL es).length:Nat):Int))])
   (fun ⟨i,u,L0,L2⟩ w=>Sep z (blk b1 [.bool false,.slice ka ((kL es).length) kc,.slice va ((vL es).length) vc] 92::grow 3 1 (.slice ka ((kL es).length) kc) ((kL es).length) ((kL es).map Iv_)::grow 3 1 (.slice va ((vL es).length) vc) ((vL es).length) ((vL es).map Iv_)::trA Tb pp mb n o T::grow 55 2 u ((Aj mo.toNat l (Ap fr tt L0)).length) (AX (Aj mo.toNat l (Ap fr tt L0)))::R) w∧(i≤es.length∧L=L0++L2∧Sq (fun c a b L=>Tr (EH o T) h c a b 4 L) (es.drop i) hi L2)) (fun ⟨i,u,L0,L2⟩=>es.length - i) ⟨0,u,[],L⟩
   (fun _ hF=>(hF.co rfl (by go_num) (hF.all rfl))) ⟨(by simpa [Aj,Ap] using H),⟨Nat.zero_le _,rfl,hsq⟩⟩ ?_
 clear H;rintro ⟨i,u,L0,L2⟩ w ⟨H',hI⟩;dsimp only at hI H' ⊢
 have H:=H'.l5;have su:=H.says 4 rfl (fun h q=>q.slc)
 obtain ⟨hil0,hLe,hsi⟩:=hI;have hkl:(kL es).length=es.length:=by simp
 have hvl:(vL es).length=es.length:=by simp
 refine Z0 6 [0] rfl (Af rfl (fun h1=> ?_) (fun h1=> ?_))
 ·refine Zc 12 rfl ?_;have hil:i<es.length:=by simp only[List.length_map] at *;omega
  obtain ⟨e,he⟩:∃ e,es[i]? =some e:=⟨_,List.getElem?_eq_getElem hil⟩;have hem:=List.mem_of_getElem? he
  have her:=hrg e hem
  have hka:=(H.rd 1 rfl (fun h q=>q.rd)).at (j:=i) (u:=Iv_ e.1) (by simp[kL,he])
  have hva:=(H.rd 2 rfl (fun h q=>q.rd)).at (j:=i) (u:=Iv_ (e.2:Int)) (by simp[vL,he])
  obtain ⟨Lc,L3,hL2,hTc,hs3⟩:=T4 he hsi;have hdr:=List.drop_eq_getElem_cons hil
  have hge:∀ x∈L2,e.1≤x.1:=fun x hx=>by have:=Sq.ge hsi (hok.srt.drop i) (fun y hy=>(hrg y (List.mem_of_mem_drop hy)).2) x hx;rw[hdr] at this;have he2:=(List.getElem?_eq_some_iff.1 he).2;simp only[nx] at this;rw[he2] at this;exact this
  have hlc:=hTc.srt.2
  refine Zc 2 rfl (Ab rfl (CI rfl (sz:=2) (by kernel_rfl) rfl su) (Z0 3 [0] rfl (Ak 37 rfl (fun h2=> ?_) (fun h2=> ?_))))
  ·refine Zc 20 rfl (Zr rfl ?_);have hend:(Aj mo.toNat l (Ap fr tt L))=(Aj mo.toNat l (Ap fr tt L0)):=by rw[hLe];exact BV (by first|exact .inl (by omega)|exact .inr (fun x hx=> .inr (by have:=hge x hx;omega)))
   exact ⟨_,⟨u,rfl,rfl⟩,by rw[hend];exact H.pick 5 [3,4] rfl⟩
  ·refine Z2 3 [1,0,0] H rfl (Ab rfl (Ao rfl (z:=1) (j:=i) (r:=i) (by kernel_rfl) rfl rfl rfl (by omega) hka (by omega)) (Ab rfl (Az rfl rfl (by kernel_rfl) (Av hka)) (Z0 6 [0] rfl (Af rfl (fun h3=> ?_) (fun h3=> ?_)))))
   ·refine Zc 8 rfl (Zr rfl ?_);have hend:(Aj mo.toNat l (Ap fr tt L))=(Aj mo.toNat l (Ap fr tt L0)):=by rw[hLe];exact BV (by first|exact .inl (by omega)|exact .inr (fun x hx=> .inr (by have:=hge x hx;omega)))
    exact ⟨_,⟨u,rfl,rfl⟩,by rw[hend];exact H.pick 5 [3,4] rfl⟩
   ·refine Z3 30 [0,0,0,0,0,0,1,0,0,0] [(i:Int)+1] H rfl (by omega) (Ak 84 rfl (fun h4=> ?_) (fun h4=> ?_))
    ·refine Z2 20 [2,0,0] H rfl (Ab rfl (Ao rfl (z:=1) (j:=i) (r:=i) (by kernel_rfl) rfl rfl rfl (by omega) hva (by omega)) (Ab rfl (Az rfl rfl (by kernel_rfl) (Av hva)) (Zc 4 rfl (Ar rfl (call36 _) (ih e.2 e.1 (nx (es.drop (i+1)) hi) 4 Lc (Aj mo.toNat l (Ap fr tt L0)) u hTc (by have:=FV mo.toNat l (Ap fr tt L0);have:=FW fr tt L0;rw[hLe,hL2] at hll;simp only[List.length_append] at hll;omega)) H.f4.f4 ?_))));rintro _ w _ ⟨u2,rfl,rfl⟩ H;replace H:=H.l5;have H':Sep z (trA Tb pp mb n o T::grow 55 2 u2 ((Aj mo.toNat l (Ap fr tt (L0++Lc))).length) (AX (Aj mo.toNat l (Ap fr tt (L0++Lc))))::blk b1 [.bool false,.slice ka ((kL es).length) kc,.slice va ((vL es).length) vc] 92::grow 3 1 (.slice ka ((kL es).length) kc) ((kL es).length) ((kL es).map Iv_)::grow 3 1 (.slice va ((vL es).length) vc) ((vL es).length) ((vL es).map Iv_)::R) w:=by rw[Es];exact H
     have H:=H'.l5;have su2:=H.says 1 rfl (fun h q=>q.rd.slc)
     refine Z1 22 [4] [(i:Int)+1] rfl (by omega) ?_;replace H:=H.f1.f1.f4.f4.f4;refine gf ?_;intro _ hF;refine ⟨⟨i+1,u2,L0++Lc,L3⟩,(hF.co rfl (by go_num) (hF.all rfl)),⟨H,?_⟩,?_⟩
     ·exact ⟨by show i+1≤es.length;omega,by show L=L0++Lc++L3;rw[hLe,hL2,List.append_assoc],hs3⟩
     ·(dsimp only;omega)
    ·refine Z3 4 [1,0,0] [(i:Int)+1] H rfl (by omega) ?_;have hnx:=(H.rd 1 rfl (fun h q=>q.rd)).at (j:=i+1) (u:=Iv_ (nx (es.drop (i+1)) hi)) (T5 hi (by simp only[List.length_map] at *;omega))
     refine Ab rfl (Ao rfl (z:=1) (j:=(i+1)) (r:=(i+1)) (by kernel_rfl) rfl rfl (by omega) (by simp only[List.length_map] at *;omega) hka (by omega)) (Ab rfl (Az rfl rfl (by kernel_rfl) (Av hnx)) (Z0 7 [0] rfl (Af rfl (fun h5=> ?_) (fun h5=> ?_))))
     ·refine Z2 6 [2,0,0] H rfl (Ab rfl (Ao rfl (z:=1) (j:=i) (r:=i) (by kernel_rfl) rfl rfl rfl (by omega) hva (by omega)) (Ab rfl (Az rfl rfl (by kernel_rfl) (Av hva)) (Zc 4 rfl (Ar rfl (call36 _) (ih e.2 e.1 (nx (es.drop (i+1)) hi) 4 Lc (Aj mo.toNat l (Ap fr tt L0)) u hTc (by have:=FV mo.toNat l (Ap fr tt L0);have:=FW fr tt L0;rw[hLe,hL2] at hll;simp only[List.length_append] at hll;omega)) H.f4.f4 ?_))));rintro _ w _ ⟨u2,rfl,rfl⟩ H;replace H:=H.l5;have H':Sep z (trA Tb pp mb n o T::grow 55 2 u2 ((Aj mo.toNat l (Ap fr tt (L0++Lc))).length) (AX (Aj mo.toNat l (Ap fr tt (L0++Lc))))::blk b1 [.bool false,.slice ka ((kL es).length) kc,.slice va ((vL es).length) vc] 92::grow 3 1 (.slice ka ((kL es).length) kc) ((kL es).length) ((kL es).map Iv_)::grow 3 1 (.slice va ((vL es).length) vc) ((vL es).length) ((vL es).map Iv_)::R) w:=by rw[Es];exact H
      have H:=H'.l5;have su2:=H.says 1 rfl (fun h q=>q.rd.slc)
      refine Z1 22 [4] [(i:Int)+1] rfl (by omega) ?_;replace H:=H.f1.f1.f4.f4.f4;refine gf ?_;intro _ hF;refine ⟨⟨i+1,u2,L0++Lc,L3⟩,(hF.co rfl (by go_num) (hF.all rfl)),⟨H,?_⟩,?_⟩
      ·exact ⟨by show i+1≤es.length;omega,by show L=L0++Lc++L3;rw[hLe,hL2,List.append_assoc],hs3⟩
      ·(dsimp only;omega)
     ·refine Z1 8 [] [(i:Int)+1] rfl (by omega) (gf ?_);intro _ hF;refine ⟨⟨i+1,u,L0++Lc,L3⟩,(hF.co rfl (by go_num) (hF.all rfl)),⟨(by rw[show (Aj mo.toNat l (Ap fr tt (L0++Lc)))=(Aj mo.toNat l (Ap fr tt L0)) from BV (.inr (fun x hx=>by have:=hlc x hx;omega))];exact H),?_⟩,?_⟩
      ·exact ⟨by show i+1≤es.length;omega,by show L=L0++Lc++L3;rw[hLe,hL2,List.append_assoc],hs3⟩
      ·(dsimp only;omega)
 ·refine Zc 2 rfl (gx (Zc 10 rfl (Zr rfl ?_)));have hend:(Aj mo.toNat l (Ap fr tt L))=(Aj mo.toNat l (Ap fr tt L0)):=by have:L2=[]:=(by have hie:i=es.length:=(by simp only[List.length_map] at *;omega);have h:=hsi;rw[hie,List.drop_length] at h;exact h);rw[hLe,this,List.append_nil]
  exact ⟨_,⟨u,rfl,rfl⟩,by rw[hend];exact H.pick 5 [3,4] rfl⟩
end
section
open Go.RowKit
variable {Tb:Ae}
theorem Yn (pp mb n:Nat) (o:TB) (T:TT) (fr tt mo:Int) (h:Nat):∀ (ra:Nat) (lo hi:Int) (m_:Nat) (L l:List E) (u:Value),Tr (EH o T) h ra lo hi m_ L→l.length+L.length≤1048576→Cn prog 36 [Pt_ pp,Iv_ (ra:Int),Iv_ fr,Iv_ tt,Iv_ mo,u] [trA Tb pp mb n o T,grow 55 2 u l.length (AX l)] (fun v Γ=>∃ u2:Value,v= .tuple #[u2,Iv_ 0]∧Γ=[trA Tb pp mb n o T,grow 55 2 u2 (Aj mo.toNat l (Ap fr tt L)).length (AX (Aj mo.toNat l (Ap fr tt L)))]):=by
 induction h with
 | zero=>exact fun ra lo hi m_ L l u=>Ws pp mb n o T fr tt mo ra lo hi m_ L l u
 | succ h ih=>exact fun ra lo hi m_ L l u=>Wt pp mb n o T fr tt mo h ih ra lo hi m_ L l u
theorem Wu (pp mb n:Nat) (o:TB) (T:TT) (ra:Nat) (L:List E) (fr tt mo:Int) (hR:Root (EH o T) ra L) (hll:L.length≤1048576):Cn prog 11 [Pt_ pp,Iv_ (ra:Int),Iv_ fr,Iv_ tt,Iv_ mo] [trA Tb pp mb n o T] (fun v Γ=>∃ u2:Value,v= .tuple #[u2,Iv_ 0]∧Γ=[trA Tb pp mb n o T,grow 55 2 u2 (Aj mo.toNat [] (Ap fr tt L)).length (AX (Aj mo.toNat [] (Ap fr tt L)))]):=by
 intro z R w H;replace H:=H.l1;have hRL:ra=0→L=[]:=fun q=>by rcases hR with ⟨_,e⟩|⟨e,_⟩;exact e;exact absurd q e
 refine Ad func11 rfl ntmps11 rfl (Z0 22 [0] rfl (Ak 16 rfl (fun h1=> ?_) (fun h1=> ?_)))
 ·refine Zc 18 rfl (Zr rfl ?_);have h0:(Aj mo.toNat [] (Ap fr tt L))=[]:=by first|(rw[hRL (by omega)];simp[Aj,Ap])|(rw[show mo.toNat=0 by omega];simp[Aj])|(rw[scF_no (fun e _=>by omega)];simp[Aj])
  exact ⟨_,⟨.slice none 0 0,rfl,rfl⟩,by rw[h0];exact (((H.pick 1 [0] rfl).nilg 55 2).f1)⟩
 ·refine Z0 4 [0] rfl (Ak 20 rfl (fun h2=> ?_) (fun h2=> ?_))
  ·refine Zc 14 rfl (Zr rfl ?_);have h0:(Aj mo.toNat [] (Ap fr tt L))=[]:=by first|(rw[hRL (by omega)];simp[Aj,Ap])|(rw[show mo.toNat=0 by omega];simp[Aj])|(rw[scF_no (fun e _=>by omega)];simp[Aj])
   exact ⟨_,⟨.slice none 0 0,rfl,rfl⟩,by rw[h0];exact (((H.pick 1 [0] rfl).nilg 55 2).f1)⟩
  ·refine Z0 6 [0] rfl (Af rfl (fun h3=> ?_) (fun h3=> ?_))
   ·refine Zc 7 rfl (Zr rfl ?_);have h0:(Aj mo.toNat [] (Ap fr tt L))=[]:=by first|(rw[hRL (by omega)];simp[Aj,Ap])|(rw[show mo.toNat=0 by omega];simp[Aj])|(rw[scF_no (fun e _=>by omega)];simp[Aj])
    exact ⟨_,⟨.slice none 0 0,rfl,rfl⟩,by rw[h0];exact (((H.pick 1 [0] rfl).nilg 55 2).f1)⟩
   ·refine Zc 3 rfl ?_;replace H:=(H.nilg 55 2).l2
    obtain ⟨_,h,hT⟩:=hR.resolve_left (fun q=>by have:=q.1;omega);refine Zc 6 rfl (Ar rfl (call36 _) (Yn _ _ _ _ _ _ _ _ h ra _ _ _ L [] _ hT (by simpa using hll)) H.f1 ?_);rintro _ w _ ⟨u2,rfl,rfl⟩ H;refine Zc 7 rfl (Zr rfl ?_);exact ⟨_,⟨u2,rfl,rfl⟩,H.pick 2 [0,1] rfl⟩
end
section
open Go.RowKit
variable {Tb:Ae}
theorem Tr.many {N:Hm} :∀ {h r:Nat} {lo hi:Int} {m:Nat} {L:List E},Tr N h r lo hi m L→m * 4 ^ h≤L.length
 | 0,_,_,_,_,_,t=>by obtain ⟨es,_,hm,_,_,rfl,_⟩:=t;simpa using hm
 | h+1,r,lo,hi,m,L,t=>by
  obtain ⟨es,_,hm,_,_,hs⟩:=t
  have key:∀ (es:List E) (L:List E),Sq (fun c a b L=>Tr N h c a b 4 L) es hi L→es.length * 4 ^ (h+1)≤L.length:=by
   intro es
   induction es with
   | nil=>intro L q;simp
   | cons e u ih2=>
    rintro _ ⟨L1,L2,rfl,h6,h7⟩
    have:=ih2 L2 h7
    have h8:=Tr.many h6
    rw[List.length_cons,Nat.add_mul,Nat.one_mul,List.length_append]
    have:4 ^ (h+1)=4 * 4 ^ h:=by rw[Nat.pow_succ];omega
    omega
  exact Nat.le_trans (Nat.mul_le_mul_right _ hm) (key es L hs)
theorem Root.h2 {N:Hm} {a:Nat} {L:List E} (h:Root N a L) (ha:a≠0) (hl:L.length≤80):∃ k,k≤2∧Tr N k a 0 1048576 (rootM k) L:=by
 rcases h with ⟨e,_⟩|⟨_,k,t⟩
 ·exact absurd e ha
 ·refine ⟨k,?_,t⟩
  have:=t.many
  rcases Nat.lt_or_ge k 3 with q|q
  ·omega
  ·exfalso
   rw[if_neg (by omega)] at this
   have h4:4 ^ 3≤4 ^ k:=Nat.pow_le_pow_right (by omega) q
   simp at h4;omega
theorem Yo (pp mb n:Nat) (o:TB) (t:TS) (Q:List Nat) (a:Nat) (key:Int) (L:List E) (hR:Root t.N a L) (hd:(vals L).Nodup) (hl:L.length≤80) (hn:n≤511) (hk:t.k≤15) (hb:Q.length≤100) (hke:Cr key L) (hf:20≤cnt t.F 0 1024):
  Cn prog 27 [Pt_ pp,Iv_ (a:Int),Iv_ key] [trA Tb pp mb n o (some (t,BQ a++Q))] (fun v Γ=>∃ (t2:TS) (r:Nat),(St t t2 Q 8 15∧Root t2.N r (delE key L))∧v= .tuple #[Iv_ (r:Int),.bool true,Iv_ 0]∧Γ=[trA Tb pp mb n o (some (t2,BQ r++Q))]):=by
 intro z R w H
 have ha:a≠0:=fun e=>by
  subst e
  rcases hR with ⟨_,e⟩|⟨e,_⟩
  ·subst e;obtain ⟨v,hv⟩:=hke;simp at hv
  ·exact e rfl
 obtain ⟨h,hh,hT⟩:=hR.h2 ha hl
 have e:BQ a++Q=a::Q:=by rw[DE ha];rfl
 rw[e] at H
 refine Ret.mono (Cn.at (Yb pp mb n o t Q h a key L hT hd (by omega) (by omega)) H 1 [0] rfl rfl) ?_
 rintro v w' ⟨Γ',(⟨h0,rfl,rfl⟩|⟨h0,s,rfl,rfl⟩|⟨t2,r,⟨h0,h1,h2⟩,rfl,rfl⟩),H'⟩
 ·exact absurd hke h0
 ·omega
 ·exact ⟨_,⟨t2,r,⟨h1.sub (fun p hp=>hp) (by omega) (by omega),h2⟩,rfl,rfl⟩,H'⟩
def Dp (X L:List E):List E:=X.foldl (fun M e=>delE e.1 M) L
theorem HG {X L:List E} {i:Nat} {e:E} (h:X[i]? =some e):Dp (X.take (i+1)) L=delE e.1 (Dp (X.take i) L):=by
 unfold Dp;rw[List.take_add_one,h,List.foldl_append];rfl
theorem M3 {k:Int} :∀ {X L:List E},Cr k L→(∀ y∈X,y.1≠k)→Cr k (Dp X L)
 | [],_,h,_=>h
 | x::X,L,h,hX=>by
  obtain ⟨v,hv⟩:=h
  exact M3 (X:=X) (L:=delE x.1 L) ⟨v,List.mem_filter.2 ⟨hv,by have:=hX x (by simp);simpa using fun e=>this e.symm⟩⟩ (fun y hy=>hX y (by simp[hy]))
theorem Ot (k:Int) (L:List E):(delE k L).length≤L.length:=List.length_filter_le ..
theorem GD:∀ (X L:List E),(Dp X L).length≤L.length
 | [],_=>Nat.le_refl _
 | x::X,L=>Nat.le_trans (GD X (delE x.1 L)) (Ot x.1 L)
theorem Q4 {k:Int} {L:List E} (h:Cr k L):(delE k L).length+1≤L.length:=by
 obtain ⟨v,hv⟩:=h
 have:(delE k L).length<L.length:=by
  rcases Nat.lt_or_ge (delE k L).length L.length with q|q
  ·exact q
  ·have e:delE k L=L:=(List.filter_sublist).eq_of_length (Nat.le_antisymm (Ot k L) q)
   rw[←e] at hv
   have:=(List.mem_filter.1 hv).2
   simp at this
 omega
theorem Ou {m:Nat} {a b:Int} {L:List E} {e:E} (h:e∈Aj m [] (Ap a b L)):e∈L:=by
 unfold Aj at h
 rw[List.nil_append] at h
 exact (List.mem_filter.1 (List.mem_of_mem_take h)).1
theorem Wv {m:Nat} {a b:Int} {L:List E} (h:Srt L):Srt (Aj m [] (Ap a b L)):=by
 unfold Aj
 rw[List.nil_append]
 exact (h.sublist List.filter_sublist).sublist (List.take_sublist _ _)
theorem Tu {m i:Nat} {a b:Int} {L:List E} {e:E} (h:Srt L) (he:(Aj m [] (Ap a b L))[i]? =some e):Cr e.1 (Dp ((Aj m [] (Ap a b L)).take i) L):=by
 refine M3 ⟨e.2,Ou (List.mem_of_getElem? he)⟩ fun y hy=> ?_
 have hs:=Wv (m:=m) (a:=a) (b:=b) h
 obtain ⟨j,hj⟩:=List.getElem?_of_mem hy
 rw[List.getElem?_take] at hj
 split at hj
 ·rename_i hji
  obtain ⟨h1,rfl⟩:=List.getElem?_eq_some_iff.1 hj
  obtain ⟨h2,rfl⟩:=List.getElem?_eq_some_iff.1 he
  have:=List.pairwise_iff_getElem.1 hs j i h1 h2 hji
  omega
 ·cases hj
theorem Tv {m:Nat} {a b:Int} {L:List E} (h:Srt L) (h0:(Aj m [] (Ap a b L)).length≠0):(Dp (Aj m [] (Ap a b L)) L).length+1≤L.length:=by
 match hX:Aj m [] (Ap a b L),h0 with
 | x::X,_=>
  have h1:x∈Aj m [] (Ap a b L):=by rw[hX];simp
  have:=Q4 (k:=x.1) ⟨x.2,Ou h1⟩
  have h2:=GD X (delE x.1 L)
  show (Dp X (delE x.1 L)).length+1≤L.length
  omega
theorem Ov {m:Nat} (a b:Int) (L:List E):(Aj m [] (Ap a b L)).length≤m:=by
 unfold Aj;rw[List.nil_append,List.length_take];simp;omega
set_option maxHeartbeats 4000000 in
theorem Y5 (pp mb n:Nat) (o:TB) (t:TS) (ra:Nat) (L:List E) (fr tt mo:Int) (hR:Root t.N ra L) (hd:(vals L).Nodup) (hl:L.length≤80) (hmo:1≤mo∧mo≤2) (hn5:n≤511) (hk:t.k=0) (hf:40≤cnt t.F 0 1024):Cn prog 23 [Pt_ pp,Iv_ (ra:Int),Iv_ fr,Iv_ tt,Iv_ mo] [trA Tb pp mb n o (some (t,BQ ra++[]))] (fun v Γ=>∃ (r2:Nat) (t2:TS),(Root t2.N r2 (Dp (Aj mo.toNat [] (Ap fr tt L)) L)∧(vals (Dp (Aj mo.toNat [] (Ap fr tt L)) L)).Nodup∧t2.k≤30)∧v= .tuple #[Iv_ (r2:Int),Iv_ ((Aj mo.toNat [] (Ap fr tt L)).length:Int),Iv_ 0]∧Γ=[trA Tb pp mb n o (some (t2,BQ r2++[]))]):=by
 intro z R w H;replace H:=H.l1;refine Ad func23 rfl ntmps23 rfl (Zc 11 rfl (z_E_ rfl (call41 _) (Oo _ _ _ _ _) H ?_));intro w H;refine Z0 18 [4,0] rfl (Ak 25 rfl (fun h1=> ?_) (fun h1=> ?_))
 ·(exfalso;omega)
 ·refine Z0 5 [0] rfl (Af rfl (fun h2=> ?_) (fun h2=> ?_))
  ·(exfalso;omega)
  ·refine Zc 9 rfl (Ar rfl (call11 _) (Wu _ _ _ _ (some (t,BQ ra++[])) ra L _ _ _ hR (by omega)) H ?_);rintro _ w _ ⟨us,rfl,rfl⟩ H;replace H:=H.l2;have sus:=H.says 1 rfl (fun h q=>q.rd.slc)
   refine Z0 19 [4] rfl ?_;obtain ⟨ua,uc,rfl⟩:=sus;have hXl:(Aj mo.toNat [] (Ap fr tt L)).length≤2:=Nat.le_trans (Ov fr tt L) (by omega)
   refine Zc 7 rfl ?_;refine AH (σ:=Nat×Nat×TS) (fun ⟨i,ri,ti⟩=>[(43,Iv_ (i:Int)),(1,Iv_ (ri:Int)),(0,Pt_ pp),(14,.slice ua ((Aj mo.toNat [] (Ap fr tt L)).length) uc),(41,.slice ua ((Aj mo.toNat [] (Ap fr tt L)).length) uc),(42,Iv_ (((Aj mo.toNat [] (Ap fr tt L)).length:Nat):Int))])
     (fun ⟨i,ri,ti⟩ w=>Sep z (trA Tb pp mb n o (some (ti,BQ ri++[]))::grow 55 2 (.slice ua ((Aj mo.toNat [] (Ap fr tt L)).length) uc) ((Aj mo.toNat [] (Ap fr tt L)).length) (AX (Aj mo.toNat [] (Ap fr tt L)))::R) w∧(i≤(Aj mo.toNat [] (Ap fr tt L)).length∧Root ti.N ri (Dp ((Aj mo.toNat [] (Ap fr tt L)).take i) L)∧(vals (Dp ((Aj mo.toNat [] (Ap fr tt L)).take i) L)).Nodup∧ti.k≤15 * i∧40≤cnt ti.F 0 1024+8 * i)) (fun ⟨i,ri,ti⟩=>(Aj mo.toNat [] (Ap fr tt L)).length - i) ⟨0,ra,t⟩
     (fun _ hF=>(hF.co rfl (by go_num) (hF.all rfl))) ⟨H,⟨Nat.zero_le _,hR,hd,by omega,by omega⟩⟩ ?_
   clear H;rintro ⟨i,ri,ti⟩ w ⟨H',hI⟩;dsimp only at hI H' ⊢
   have H:=H'.l2;obtain ⟨hil,hRi,hdi,hki,hfi⟩:=hI;refine Z0 6 [0] rfl (Af rfl (fun h3=> ?_) (fun h3=> ?_))
   ·refine Zc 5 rfl ?_;obtain ⟨e,he⟩:∃ e,(Aj mo.toNat [] (Ap fr tt L))[i]? =some e:=⟨_,List.getElem?_eq_getElem (by omega)⟩;have hu0:=(H.rd 1 rfl (fun h q=>q.rd)).at (Ca he).1
    have hke:=Tu hR.srt.1 he
    refine Zc 1 rfl (Ab rfl (Ao rfl (z:=2) (j:=i) (r:=i * 2) (by kernel_rfl) rfl rfl rfl (by omega) hu0 (by omega)) (Ab rfl (Co rfl rfl (vs:=[Iv_ e.1,Iv_ (e.2:Int)]) (by kernel_rfl) (by simp) (Av (fun k u hk=>by rcases k with _|_|k<;>simp at hk<;>subst hk<;>first|exact (H.rd 1 rfl (fun h q=>q.rd)).at (Ca he).1|exact (H.rd 1 rfl (fun h q=>q.rd)).at (Ca he).2))) (Za 0 [] H rfl ?_)));intro b1 w H;refine Z4 9 [0,0,0,0] H rfl ?_;intro w H;refine Ar rfl (call27 _) (Yo pp mb n o ti [] ri e.1 (Dp ((Aj mo.toNat [] (Ap fr tt L)).take i) L) hRi hdi (by have:=GD ((Aj mo.toNat [] (Ap fr tt L)).take i) L;omega) hn5 (by omega) (by simp) hke (by omega)) H.f1 ?_;rintro _ w _ ⟨t3,r3,⟨hSt,hR3⟩,rfl,rfl⟩ H;replace H:=H.l3;have hSk:=hSt.k;have hSf:=hSt.f
    refine Z1 22 [4] [(i:Int)+1] rfl (by omega) ?_;replace H:=H.f1.d;refine gf ?_;intro _ hF;refine ⟨⟨i+1,r3,t3⟩,(hF.co rfl (by go_num) (hF.all rfl)),⟨H,?_⟩,?_⟩
    ·exact ⟨by show i+1≤_;omega,by rw[HG he];exact hR3,by rw[HG he];exact JA hdi,by show t3.k≤15 * (i+1);omega,by show 40≤cnt t3.F 0 1024+8 * (i+1);omega⟩
    ·(dsimp only;omega)
   ·refine Zc 2 rfl (gx (Zc 13 rfl (Zr rfl ?_)));have htk:(Aj mo.toNat [] (Ap fr tt L)).take i=(Aj mo.toNat [] (Ap fr tt L)):=List.take_of_length_le (by omega)
    rw[htk] at hRi hdi;exact ⟨_,⟨ri,ti,⟨hRi,hdi,by omega⟩,rfl,rfl⟩,H.pick 2 [0] rfl⟩
theorem Yp (pp mb n:Nat) (o:TB) (ra fr tt mo:Int):Cn prog 23 [Pt_ pp,Iv_ ra,Iv_ fr,Iv_ tt,Iv_ mo] [trA Tb pp mb n o none] (fun v Γ=>v= .tuple #[Iv_ 0,Iv_ 0,Iv_ 18]∧Γ=[trA Tb pp mb n o none]):=by
 intro z R w H;replace H:=H.l1;refine Ad func23 rfl ntmps23 rfl (Zc 11 rfl (z_E_ rfl (call41 _) (MY _ _ _ _) H ?_));intro w H;refine Z0 19 [3] rfl (Zr rfl ?_);exact ⟨_,⟨rfl,rfl⟩,H⟩
theorem Q5 (pp mb n:Nat) (o:TB) (s:TS×List Nat) (ra fr tt mo:Int) (hmo:mo<1∨2<mo):Cn prog 23 [Pt_ pp,Iv_ ra,Iv_ fr,Iv_ tt,Iv_ mo] [trA Tb pp mb n o (some s)] (fun v Γ=>v= .tuple #[Iv_ 0,Iv_ 0,Iv_ 1]∧Γ=[trA Tb pp mb n o (some s)]):=by
 intro z R w H;replace H:=H.l1;refine Ad func23 rfl ntmps23 rfl (Zc 11 rfl (z_E_ rfl (call41 _) (Oo _ _ _ _ _) H ?_));intro w H;refine Z0 18 [4,0] rfl (Ak 25 rfl (fun h1=> ?_) (fun h1=> ?_))
 ·refine Zc 14 rfl (Zr rfl ?_);exact ⟨_,⟨rfl,rfl⟩,H⟩
 ·refine Z0 5 [0] rfl (Af rfl (fun h2=> ?_) (fun h2=> ?_))
  ·refine Zc 8 rfl (Zr rfl ?_);exact ⟨_,⟨rfl,rfl⟩,H⟩
  ·(exfalso;omega)
end
section
open Go.RowKit
variable {Tb:Ae}
set_option maxHeartbeats 6000000 in
theorem Nj (A Tb:Ae) (hT:GT Tb) (v:Value) (ks:List Int) (hA:Zg v ks A) (fr tt mo:Int):Cn prog 7 [v,.agg #[Iv_ fr,Iv_ tt,Iv_ mo]] [A,Tb] (fun v Γ=>v= .bool true∧Γ=[A,Tb]):=by
 intro z R w H;replace H:=H.l2;obtain ⟨ao,oc,rfl⟩:=H.says 0 rfl (fun h q=>(hA h q).1.slc);refine Ad func7 rfl ntmps7 rfl (Za 2 [] H rfl ?_);intro b1 w H;refine Z2 26 [0,0,0,1,0,0,2,0,0] H rfl (Ar rfl (call9 _) (MU 300 (by omega) Tb hT) H.f2 ?_);rintro _ w _ ⟨pp,rfl,rfl⟩ H;refine Zc 17 rfl (Ar rfl (call10 _) (On _ 6 300 (Iu 300) _ ([]) 0 [] _ ks hA (T6 (by omega)) rfl (T7 (by omega)) (by have e3:manyN 300=3:=rfl;simp only[List.length_nil];omega) (by omega)) H.f2.f1 ?_);rintro _ w _ ⟨pm,ra,L,o2,m2,hG,rfl,rfl⟩ H;refine Zc 20 rfl ?_;have hl80:=hG.L80
 refine Zc 6 rfl (z_E_ rfl (call23 _) (Yp _ _ _ _ _ _ _ _) H.f1 ?_);intro w H;refine Z0 16 [4] rfl (z_E_ rfl (call18 _) (J6 _ _ _ _) H ?_);intro w H;refine Z0 13 [4,0] rfl (Ak 63 rfl (fun h1=> ?_) (fun h1=> ?_))
 ·refine Zc 13 rfl (z_E_ rfl (call23 _) (Q5 _ _ _ _ _ _ _ _ _ (by omega)) H ?_);intro w H;refine Zc 12 rfl (z_E_ rfl (call24 _) (J7 _ _ _ _ _) H ?_);intro w H;refine Zc 7 rfl (z_E_ rfl (call25 _) (KZ _ _ _ _ _ _ L hG.I.root (by omega)) H.f1 ?_);intro w H;refine Z0 11 [3] rfl ?_;replace H:=(((H.pick 4 [1,2] rfl).trTab).2).l2
  refine z_E_ rfl (call14 _) (IW Tb hT) H ?_;intro w H;refine Zc 5 rfl (Zr rfl ?_);exact ⟨_,⟨rfl,rfl⟩,H.pick 2 [1,0] rfl⟩
 ·refine Z0 5 [0] rfl (Af rfl (fun h2=> ?_) (fun h2=> ?_))
  ·refine Zc 7 rfl (z_E_ rfl (call23 _) (Q5 _ _ _ _ _ _ _ _ _ (by omega)) H ?_);intro w H;refine Zc 12 rfl (z_E_ rfl (call24 _) (J7 _ _ _ _ _) H ?_);intro w H;refine Zc 7 rfl (z_E_ rfl (call25 _) (KZ _ _ _ _ _ _ L hG.I.root (by omega)) H.f1 ?_);intro w H;refine Z0 11 [3] rfl ?_;replace H:=(((H.pick 4 [1,2] rfl).trTab).2).l2
   refine z_E_ rfl (call14 _) (IW Tb hT) H ?_;intro w H;refine Zc 5 rfl (Zr rfl ?_);exact ⟨_,⟨rfl,rfl⟩,H.pick 2 [1,0] rfl⟩
  ·refine Zc 5 rfl (z_E_ rfl (call24 _) (J7 _ _ _ _ _) H ?_);intro w H;refine Zc 9 rfl ?_;refine AH (σ:=Nat×Nat×List E×TB×Nat) (fun ⟨i,ra,L,o,mb⟩=>[(19,Iv_ (i:Int)),(9,Iv_ (ra:Int)),(5,Iv_ fr),(6,Iv_ tt),(7,Iv_ mo),(8,Pt_ pp),(10,Pt_ pm)])
     (fun ⟨i,ra,L,o,mb⟩ w=>Sep z (trA Tb pp mb 300 o none::mpA pm L::A::blk b1 [Iv_ fr,Iv_ tt,Iv_ mo] 37::R) w∧(LwI 300 o ra L []∧L.length+i≤80∧mb≤200+2 * i)) (fun ⟨i,ra,L,o,mb⟩=>100 - i) ⟨0,ra,L,o2,m2⟩
     (fun _ hF=>(hF.co rfl (by go_num) (hF.all rfl))) ⟨H,⟨hG.I,by omega,by omega⟩⟩ ?_
   clear H;rintro ⟨i,ra,L,o,mb⟩ w ⟨H',hI⟩;dsimp only at hI H' ⊢
   have H:=H'.l4;obtain ⟨hW,hLi,hmb⟩:=hI;refine Z0 7 [0] rfl (Af rfl (fun h3=> ?_) (fun h3=> ?_))
   ·refine Zc 5 rfl ?_;have hll:L.length≤1048576:=by omega
    have K:=H.says 0 rfl (fun h a=>trA.k a)
    have hrm:=hW.room (b:=0) (M:=[]) rfl (.inl ⟨rfl,rfl⟩) K
    have e3:manyN 300=3:=rfl
    simp only[List.length_nil] at hrm
    refine Zc 5 rfl (Ar rfl (call13 _) (Wm _ L _ _ _ hll) H.f1 ?_);rintro _ w _ ⟨um,rfl,rfl⟩ H;replace H:=H.l5;have sum:=H.says 1 rfl (fun h q=>q.rd.slc)
    refine Zc 7 rfl (z_E_ rfl (call18 _) (J6 _ _ _ _) H.f2 ?_);intro w H;refine Z0 7 [4] rfl ?_;replace H:=(H.mono 0 (B:=trA Tb pp mb 300 o (some (⟨o.N,o.C,BP 300 o.C,0⟩,BQ ra++[]))) rfl (fun h q=>by rw[hW.r] at q;exact q)).l5
    refine Zc 6 rfl (Ar rfl (call23 _) (Y5 _ _ _ _ (⟨o.N,o.C,BP 300 o.C,0⟩:TS) ra L _ _ _ hW.root hW.nd (by omega) (by omega) (by omega) rfl (by show 40≤cnt (BP 300 o.C) 0 1024;omega)) H ?_);rintro _ w _ ⟨r2,t2,⟨hR2,hd2,hk2⟩,rfl,rfl⟩ H;refine Z0 17 [4] rfl (Ab rfl (CI rfl (sz:=2) (by kernel_rfl) rfl sum) (Z0 3 [0] rfl (Ak 123 rfl (fun h4=> ?_) (fun h4=> ?_))))
    ·exact absurd rfl h4
    ·refine Zc 1 rfl (z_E_ rfl (call20 _) (MK _ _ _ _ _ _ (by have e3:manyN 300=3:=rfl;omega) (by omega)) H ?_);intro w H;refine Z0 15 [4] rfl ?_;obtain ⟨ua,uc,rfl⟩:=sum;have hXl:=Ov (m:=mo.toNat) fr tt L
     refine Zc 5 rfl ?_;refine AH (σ:=Nat) (fun k=>[(24,Iv_ (k:Int)),(5,Iv_ fr),(6,Iv_ tt),(7,Iv_ mo),(8,Pt_ pp),(9,Iv_ (r2:Int)),(10,Pt_ pm),(19,Iv_ (i:Int)),(20,.slice ua ((Aj (mo).toNat [] (Ap fr tt L)).length) uc),(21,Iv_ (r2:Int)),(22,Iv_ ((Aj mo.toNat [] (Ap fr tt L)).length:Int)),(23,Iv_ 0),(93,Iv_ (i:Int)),(94,.bool (decide ((i:Int)<100))),(97,Pt_ pm),(98,Iv_ fr),(99,Iv_ tt),(100,Iv_ mo),(101,.slice ua ((Aj (mo).toNat [] (Ap fr tt L)).length) uc),(102,Pt_ pp),(103,Iv_ 0),(104,.bool false),(105,.tuple #[Iv_ (r2:Int),Iv_ ((Aj mo.toNat [] (Ap fr tt L)).length:Int),Iv_ 0]),(106,Pt_ pp),(107,Iv_ (ra:Int)),(108,Iv_ fr),(109,Iv_ tt),(110,Iv_ mo),(111,.tuple #[Iv_ (r2:Int),Iv_ ((Aj mo.toNat [] (Ap fr tt L)).length:Int),Iv_ 0]),(112,Iv_ (r2:Int)),(113,Iv_ ((Aj mo.toNat [] (Ap fr tt L)).length:Int)),(114,Iv_ 0),(115,Iv_ 0),(116,.bool false),(117,.bool false),(118,Iv_ ((Aj mo.toNat [] (Ap fr tt L)).length:Int)),(119,.slice ua ((Aj (mo).toNat [] (Ap fr tt L)).length) uc),(120,Iv_ (((Aj (mo).toNat [] (Ap fr tt L)).length:Nat):Int)),(121,.bool (decide (((Aj mo.toNat [] (Ap fr tt L)).length:Int)≠(((Aj (mo).toNat [] (Ap fr tt L)).length:Nat):Int)))),(122,.bool (decide (((Aj mo.toNat [] (Ap fr tt L)).length:Int)≠(((Aj (mo).toNat [] (Ap fr tt L)).length:Nat):Int)))),(123,.bool false),(124,Pt_ pp),(125,Iv_ 0),(126,.bool false),(127,.bool false),(128,Iv_ (r2:Int))])
       (fun k w=>Sep z (trA Tb pp (mb+2) 300 ⟨t2.N,t2.C,BQ r2++[]⟩ none::mpA pm (Dp ((Aj mo.toNat [] (Ap fr tt L)).take k) L)::grow 55 2 (.slice ua ((Aj (mo).toNat [] (Ap fr tt L)).length) uc) ((Aj (mo).toNat [] (Ap fr tt L)).length) (AX (Aj (mo).toNat [] (Ap fr tt L)))::A::blk b1 [Iv_ fr,Iv_ tt,Iv_ mo] 37::R) w∧(k≤(Aj mo.toNat [] (Ap fr tt L)).length)) (fun k=>(Aj mo.toNat [] (Ap fr tt L)).length - k) 0
       (fun _ hF=>(hF.co rfl (by go_num) (hF.all rfl))) ⟨H,(Nat.zero_le _)⟩ ?_
     clear H;rintro k w ⟨H',hI⟩;have H:=H'.l5;have hkX:=hI;clear hI
     refine Z0 9 [0] rfl (Af rfl (fun h5=> ?_) (fun h5=> ?_))
     ·refine Zc 4 rfl ?_;obtain ⟨e,he⟩:∃ e,(Aj mo.toNat [] (Ap fr tt L))[k]? =some e:=⟨_,List.getElem?_eq_getElem (by omega)⟩;have hu0:=(H.rd 2 rfl (fun h q=>q.rd)).at (Ca he).1
      refine Zc 4 rfl (Ab rfl (Ao rfl (z:=2) (j:=k) (r:=k * 2) (by kernel_rfl) rfl rfl rfl (by omega) hu0 (by omega)) (Ab rfl (ER rfl (k:=0) (r:=k * 2) (by kernel_rfl) rfl hu0 rfl) (Ab rfl (Az rfl rfl (by kernel_rfl) (Av hu0)) (Ar rfl (call26 _) (Oj _ _ (Dp ((Aj mo.toNat [] (Ap fr tt L)).take k) L) (by have:=GD ((Aj mo.toNat [] (Ap fr tt L)).take k) L;omega)) H.f1 ?_))));rintro _ w _ ⟨bb,rfl,rfl⟩ H;refine Z1 8 [] [(k:Int)+1] rfl (by omega) ?_;replace H:=H.f4.f4.f4.f3.f4;refine gf ?_;intro _ hF;refine ⟨(k+1),(hF.co rfl (by go_num) (hF.all rfl)),⟨(by rw[HG he];exact H),?_⟩,?_⟩
      ·omega
      ·omega
     ·refine Zc 2 rfl (gx (Zc 3 rfl ?_));have htk:(Aj mo.toNat [] (Ap fr tt L)).take k=(Aj mo.toNat [] (Ap fr tt L)):=List.take_of_length_le (by omega)
      rw[htk] at H;refine Zc 4 rfl (z_E_ rfl (call25 _) (KZ _ _ _ _ _ _ (Dp (Aj mo.toNat [] (Ap fr tt L)) L) hR2 (by have:=GD (Aj mo.toNat [] (Ap fr tt L)) L;omega)) H.f1 ?_);intro w H;refine Z0 19 [0] rfl (Af rfl (fun h6=> ?_) (fun h6=> ?_))
      ·refine Zc 1 rfl ?_;replace H:=(((H.pick 5 [1,3] rfl).trTab).2).l2
       refine Zc 1 rfl (z_E_ rfl (call14 _) (IW Tb hT) H ?_);intro w H;refine Zc 4 rfl (Zr rfl ?_);exact ⟨_,⟨rfl,rfl⟩,H.pick 2 [1,0] rfl⟩
      ·refine Z1 8 [] [(i:Int)+1] rfl (by omega) ?_;replace H:=H.f2.d.f3.f3.f2.f3;refine gf ?_;intro _ hF;refine ⟨⟨i+1,r2,Dp (Aj mo.toNat [] (Ap fr tt L)) L,⟨t2.N,t2.C,BQ r2++[]⟩,mb+2⟩,(hF.co rfl (by go_num) (hF.all rfl)),⟨H,?_⟩,?_⟩
       ·exact ⟨hW.done hR2 hd2 rfl,by have:=Tv (m:=mo.toNat) (a:=fr) (b:=tt) hW.root.srt.1 (by omega);show (Dp (Aj mo.toNat [] (Ap fr tt L)) L).length+(i+1)≤80;omega,by show mb+2≤200+2 * (i+1);omega⟩
       ·(dsimp only;omega)
   ·(exfalso;omega)
end
end Go.Proofs.YtickmpiipomncaaGreatDoor
