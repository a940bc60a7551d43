/- Lemmas. -/
import Derived.Test.YtcldomgdkhenpaaGreatJ13
import Derived.Test.YtcldomgdkhenpaaGreatJ23
set_option linter.unusedVariables false
set_option maxRecDepth 1000000
set_option maxHeartbeats 40000000
open Go.Proofs.Tryz
open Go.Proofs.Tryz renaming prog → yM
open Go.Value renaming string → yA,pointer → yB,slice → yC,bool → yD,int → yE,agg → yF
open Go.IntKind renaming i64 → yH,u32 → yI,u64 → yJ
open Go.Obj renaming cells → yL
open Option renaming none → yO,some → yP
open Go.Lib renaming hid → yN
open And renaming intro → yd
open Array renaming getElem?_eq_some_iff → yo
open ByteArray renaming empty → yj
open Go.RowKit.Below renaming heap_setCell → yl,refl → yk
open Go.World renaming cell?_of_block → zn
open Nat renaming le_refl → ye,le_trans → yf
open Go.RowKit
namespace Go.Proofs.YtcldomgdkhenpaaGreat
section
open Sip
attribute [local irreducible] look
variable {v u:Value} {w w':World} {b:Nat}
def CL:Value→Prop
 | yE yI _=>False
 | yA _=>False
 | .pointer _=>False
 | _=>True
def vC (w w':World):Prop:=∀ (i:Nat) (cs:Array Value) (t:TypeId) (fr:Nat × Nat),w.heap[i]?=yP (Obj.cells cs t fr)→(∀ u,cs[0]?=yP u→¬ CL u)→w'.heap[i]?=yP (Obj.cells cs t fr)
abbrev D3 (_:Nat) (w w':World):Prop:=vC w w'
theorem aS5 {p:Addr} (h:w.cell? p=yP v):∃ (cs:Array Value) (t:TypeId) (fr:Nat × Nat),w.heap[p.block]?=yP (Obj.cells cs t fr)∧(p.spot=yO→cs[p.off]?=yP v):=by
 unfold World.cell? at h;cases e:w.heap[p.block]? with
 | none=>rw [e] at h;cases h
 | some o=>
  rw [e] at h;cases o with
  | cells cs t fr=>
   refine⟨cs,t,fr,rfl,fun hs=>?_⟩;simp only [hs,Option.isSome_none,Bool.false_eq_true,if_false] at h;exact h
  | _=>cases h
theorem vC.block (h:vC w w') (h0:w.cell? ⟨b,0,yO⟩=yP u) (hu:¬ CL u):w'.heap[b]?=w.heap[b]?:=by
 obtain⟨cs,t,fr,e1,e2⟩:=aS5 h0;exact (h b cs t fr e1 fun x hx=>by rw [e2 rfl] at hx;cases hx;exact hu).trans e1.symm
theorem vC.cell {w w':World} (h:vC w w') {b o:Nat} {u v:Value} (h0:w.cell? ⟨b,0,yO⟩=yP u) (hu:¬ CL u) (hv:w.cell? ⟨b,o,yO⟩=yP v):w'.cell? ⟨b,o,yO⟩=yP v:=(zn (h.block h0 hu)).trans hv
theorem UZ.turn (h:UZ w b) (hb:w'.heap[b]?=w.heap[b]?):UZ w' b:=let ⟨cs,t,e⟩:=h;⟨cs,t,hb.trans e⟩
theorem Rd.turn {n:Nat} {cs:List Value} (h:Rd w v n cs) (hz:z0 v) (ht:vC w w') (hc:∀ u,cs[0]?=yP u→¬ CL u):Rd w' v n cs:=by
 rcases h with h | ⟨g,off,cap,rfl,h2,h3,h4,h5⟩
 ·exact .inl h
 refine .inr ⟨g,off,cap,rfl,h2,h3,h4,fun j u hj=>?_⟩;have ho:=hz g off yO n cap rfl;subst ho;cases e0:cs[0]? with
 | none=>
  have:cs=[]:=by simpa using e0
  rw [this] at hj;cases hj
 | some u0=>exact ht.cell (h5 0 u0 e0) (hc u0 e0) (h5 j u hj)
theorem aFA {l:List Pr} (h:(aK l)[0]?=yP u):¬ CL u:=by
 cases l with
 | nil=>cases h
 | cons p l=>cases h;intro e;exact e
theorem aHI {l:List Nat} (h:(l.map ptr)[0]?=yP u):¬ CL u:=by
 cases l with
 | nil=>cases h
 | cons p l=>cases h;intro e;exact e
theorem NA.turn {w w':World} {b data nodes:Nat} {pv kv:Value} {bk:Bool} (h:NA w b data nodes pv kv bk) (ht:vC w w'):NA w' b data nodes pv kv bk:=
 ⟨⟨h.z.1,h.z.2.turn (ht.block h.c0 id)⟩,ht.cell h.c0 id h.c0,ht.cell h.c0 id h.c1,ht.cell h.c0 id h.c2,ht.cell h.c0 id h.c3,ht.cell h.c0 id h.c4,let ⟨o,ho⟩:=h.c5;⟨o,ht.cell h.c0 id ho⟩⟩
theorem NR.turn {w w':World} {b:Nat} {lab val:Key} {has:Bool} {kv:Value} (h:NR w b lab has val kv) (ht:vC w w'):NR w' b lab has val kv:=
 ⟨⟨h.z.1,h.z.2.turn (ht.block h.c0 id)⟩,ht.cell h.c0 id h.c0,ht.cell h.c0 id h.c1,ht.cell h.c0 id h.c2,ht.cell h.c0 id h.c3,let ⟨o,ho⟩:=h.c4;⟨o,ht.cell h.c0 id ho⟩⟩
theorem CT.turn {hs:Key→Nat} {tb:Nat} {w w':World} {lvl b:Nat} {f:Mp} (h:CT hs w lvl b f) (ht:D3 tb w w'):CT hs w' lvl b f:=by
 induction h with
 | bucket b l h0 h3=>
  obtain⟨pv,kv,a0,a1,a2⟩:=h0;exact .bucket b l ⟨pv,kv,a0.turn ht,a1.turn a0.z.1.1 ht (fun u=>aFA),a2.turn a0.z.1.2 ht (fun u hu=>by cases hu)⟩ h3
 | inner lvl b P Q fs hl h0 h1 h2 h3 h4 ih=>
  obtain⟨data,nodes,pv,kv,a0,a1,a2,a3,a4⟩:=h0;exact .inner lvl b P Q fs hl ⟨data,nodes,pv,kv,a0.turn ht,a1,a2,a3.turn a0.z.1.1 ht (fun u=>aFA),a4.turn a0.z.1.2 ht (fun u=>aHI)⟩ h1 ih h3 h4
theorem RR.turn {tb:Nat} {w w':World} {d b:Nat} {lab:Key} {f:Mp} (h:RR w d b lab f) (ht:D3 tb w w'):RR w' d b lab f:=by
 induction h with
 | mk d b lab has val kv ks f h0 h1 h2 h3 h4 h5 h6 h7 ih=>
  exact .mk d b lab has val kv ks f (h0.turn ht) (h1.turn h0.z.1 ht (fun u hu=>aHI (l:=ks.map fun q=>q.b) (by rw [List.map_map];exact hu))) h2 h3 h4 ih h6 h7
inductive Kn
 | champ (k0 k1 mk:UInt64)
 | radix
def Kn.tv:Kn→Nat→Value
 | .champ k0 k1 mk,b=>yF #[yE yH 0,yE yJ (nu k0),yE yJ (nu k1),yE yJ (nu mk),yB (yP ⟨b,0,yO⟩),yB yO]
 | .radix,b=>yF #[yE yH 1,yE yJ 0,yE yJ 0,yE yJ 0,yB yO,yB (yP ⟨b,0,yO⟩)]
def Kn.is (K:Kn) (w:World) (b:Nat) (f:Mp):Prop:=
 match K with
 | .champ k0 k1 mk=>CT (bN k0 k1 mk) w 0 b f
 | .radix=>RR w 1000 b yj f
theorem Kn.is.kept {K:Kn} {w w':World} {b:Nat} {f:Mp} (h:K.is w b f) (hk:Kept w w'):K.is w' b f:=by
 cases K with
 | champ=>exact CT.kept h hk
 | radix=>exact RR.kept h hk
theorem Kn.is.turn {K:Kn} {tb:Nat} {w w':World} {b:Nat} {f:Mp} (h:K.is w b f) (ht:D3 tb w w'):K.is w' b f:=by
 cases K with
 | champ=>exact CT.turn h ht
 | radix=>exact RR.turn h ht
theorem gN (w:World) (rb:Nat) (T:TypeId) (a0 a1 a2 a3 a4 a5 v0 v1 v2 v3 v4 v5:Value) (h:w.heap[rb]?=yP (yL #[a0,a1,a2,a3,a4,a5] T)):w.cell? ⟨rb,0,yO⟩=yP a0∧w.frozen? ⟨rb,0,yO⟩=false∧(w.setCell ⟨rb,0,yO⟩ v0).cell? ⟨rb,1,yO⟩=yP a1∧(w.setCell ⟨rb,0,yO⟩ v0).frozen? ⟨rb,1,yO⟩=false∧((w.setCell ⟨rb,0,yO⟩ v0).setCell ⟨rb,1,yO⟩ v1).cell? ⟨rb,2,yO⟩=yP a2∧((w.setCell ⟨rb,0,yO⟩ v0).setCell ⟨rb,1,yO⟩ v1).frozen? ⟨rb,2,yO⟩=false∧(((w.setCell ⟨rb,0,yO⟩ v0).setCell ⟨rb,1,yO⟩ v1).setCell ⟨rb,2,yO⟩ v2).cell? ⟨rb,3,yO⟩=yP a3∧(((w.setCell ⟨rb,0,yO⟩ v0).setCell ⟨rb,1,yO⟩ v1).setCell ⟨rb,2,yO⟩ v2).frozen? ⟨rb,3,yO⟩=false∧((((w.setCell ⟨rb,0,yO⟩ v0).setCell ⟨rb,1,yO⟩ v1).setCell ⟨rb,2,yO⟩ v2).setCell ⟨rb,3,yO⟩ v3).cell? ⟨rb,4,yO⟩=yP a4∧((((w.setCell ⟨rb,0,yO⟩ v0).setCell ⟨rb,1,yO⟩ v1).setCell ⟨rb,2,yO⟩ v2).setCell ⟨rb,3,yO⟩ v3).frozen? ⟨rb,4,yO⟩=false∧(((((w.setCell ⟨rb,0,yO⟩ v0).setCell ⟨rb,1,yO⟩ v1).setCell ⟨rb,2,yO⟩ v2).setCell ⟨rb,3,yO⟩ v3).setCell ⟨rb,4,yO⟩ v4).cell? ⟨rb,5,yO⟩=yP a5∧(((((w.setCell ⟨rb,0,yO⟩ v0).setCell ⟨rb,1,yO⟩ v1).setCell ⟨rb,2,yO⟩ v2).setCell ⟨rb,3,yO⟩ v3).setCell ⟨rb,4,yO⟩ v4).frozen? ⟨rb,5,yO⟩=false∧((((((w.setCell ⟨rb,0,yO⟩ v0).setCell ⟨rb,1,yO⟩ v1).setCell ⟨rb,2,yO⟩ v2).setCell ⟨rb,3,yO⟩ v3).setCell ⟨rb,4,yO⟩ v4).setCell ⟨rb,5,yO⟩ v5).heap[rb]?=yP (yL #[v0,v1,v2,v3,v4,v5] T)∧((((((w.setCell ⟨rb,0,yO⟩ v0).setCell ⟨rb,1,yO⟩ v1).setCell ⟨rb,2,yO⟩ v2).setCell ⟨rb,3,yO⟩ v3).setCell ⟨rb,4,yO⟩ v4).setCell ⟨rb,5,yO⟩ v5).heap.size=w.heap.size∧(∀ i,i≠rb→((((((w.setCell ⟨rb,0,yO⟩ v0).setCell ⟨rb,1,yO⟩ v1).setCell ⟨rb,2,yO⟩ v2).setCell ⟨rb,3,yO⟩ v3).setCell ⟨rb,4,yO⟩ v4).setCell ⟨rb,5,yO⟩ v5).heap[i]?=w.heap[i]?)∧∀ (w0:World) (B:Nat),Below B w0 w→B≤rb→Below B w0 ((((((w.setCell ⟨rb,0,yO⟩ v0).setCell ⟨rb,1,yO⟩ v1).setCell ⟨rb,2,yO⟩ v2).setCell ⟨rb,3,yO⟩ v3).setCell ⟨rb,4,yO⟩ v4).setCell ⟨rb,5,yO⟩ v5):=by
 have h0:(w.setCell ⟨rb,0,yO⟩ v0).heap[rb]?=yP (yL #[v0,a1,a2,a3,a4,a5] T):=heap_setCell h;have h1:((w.setCell ⟨rb,0,yO⟩ v0).setCell ⟨rb,1,yO⟩ v1).heap[rb]?=yP (yL #[v0,v1,a2,a3,a4,a5] T):=heap_setCell h0;have h2:(((w.setCell ⟨rb,0,yO⟩ v0).setCell ⟨rb,1,yO⟩ v1).setCell ⟨rb,2,yO⟩ v2).heap[rb]?=yP (yL #[v0,v1,v2,a3,a4,a5] T):=heap_setCell h1;have h3:((((w.setCell ⟨rb,0,yO⟩ v0).setCell ⟨rb,1,yO⟩ v1).setCell ⟨rb,2,yO⟩ v2).setCell ⟨rb,3,yO⟩ v3).heap[rb]?=yP (yL #[v0,v1,v2,v3,a4,a5] T):=heap_setCell h2;have h4:(((((w.setCell ⟨rb,0,yO⟩ v0).setCell ⟨rb,1,yO⟩ v1).setCell ⟨rb,2,yO⟩ v2).setCell ⟨rb,3,yO⟩ v3).setCell ⟨rb,4,yO⟩ v4).heap[rb]?=yP (yL #[v0,v1,v2,v3,v4,a5] T):=heap_setCell h3;have h5:((((((w.setCell ⟨rb,0,yO⟩ v0).setCell ⟨rb,1,yO⟩ v1).setCell ⟨rb,2,yO⟩ v2).setCell ⟨rb,3,yO⟩ v3).setCell ⟨rb,4,yO⟩ v4).setCell ⟨rb,5,yO⟩ v5).heap[rb]?=yP (yL #[v0,v1,v2,v3,v4,v5] T):=heap_setCell h4;refine⟨aG h rfl,aU h,aG h0 rfl,aU h0,aG h1 rfl,aU h1,aG h2 rfl,aU h2,aG h3 rfl,aU h3,aG h4 rfl,aU h4,h5,by simp only [World.setCell,Array.size_modify],fun i hi=>?_,fun w0 B hk hB=>?_⟩;·rw [yl _ _ _ _ (by simpa using hi),yl _ _ _ _ (by simpa using hi),yl _ _ _ _ (by simpa using hi),yl _ _ _ _ (by simpa using hi),yl _ _ _ _ (by simpa using hi),yl _ _ _ _ (by simpa using hi)]
 exact ((((((hk.setCell (show B≤(⟨rb,0,yO⟩:Addr).block from hB) _).setCell (show B≤(⟨rb,1,yO⟩:Addr).block from hB) _).setCell (show B≤(⟨rb,2,yO⟩:Addr).block from hB) _).setCell (show B≤(⟨rb,3,yO⟩:Addr).block from hB) _).setCell (show B≤(⟨rb,4,yO⟩:Addr).block from hB) _).setCell (show B≤(⟨rb,5,yO⟩:Addr).block from hB) _)
theorem eJ {rb:Nat} {cur:Array Value} {T:TypeId} {x:Int} (h:w.heap[rb]?=yP (yL cur T)) (h0:cur.toList[0]?=yP (yE yH x)) (hO:∀ i,i≠rb→w'.heap[i]?=w.heap[i]?):D3 rb w w':=
 fun i cs t fr hi hc=>by
  by_cases e:i=rb
  ·subst e;rw [h] at hi;cases hi;exact absurd (show CL (yE yH x) from trivial) (hc _ (by simpa using h0))
  exact (hO i e).trans hi
def WX (f:Mp) (w:World) (e:Ending) (w':World):Prop:=∃ v s,e = .returned v∧eK s f∧w'.ownsRow w.heap.size 52 2 v s.length (aK s)∧Kept w w'
def OfT (K:Kn) (w:World) (e:Ending) (w':World):Prop:=∃ b,e = .returned (K.tv b)∧K.is w' b none_∧Kept w w'
theorem aRK (k0 k1 mk:UInt64) (w:World):Calls yM 157 #[yF #[yE yJ (nu k0),yE yJ (nu k1),yE yJ (nu mk)],yB yO] w (OfT (.champ k0 k1 mk) w):=by
 obtain⟨hA,hB,hk⟩:=dF w (yL #[yE yJ (nu k0),yE yJ (nu k1),yE yJ (nu mk)] 26) (yL #[yE yH 0,yE yJ 0,yE yJ 0,yE yJ 0,yB yO,yB yO] 179);have HA:=yN (yd hA (yd hB hk));clear hA hB hk;go_enter func157,ntmps157;go_wp2_with fail;generalize (w.alloc _).alloc _=w1 at *;obtain⟨hb,gM⟩:∃ hb,hb=w.heap.size:=⟨_,rfl⟩;rw [← gM] at HA ⊢;have HW:=yN gM;clear gM;refine (aRJ w1).mono ?_;rintro e w2 ⟨c,rfl,dK,hk2⟩;have mC:=(hk2.block hb (yo.1 HA.o.1).1).trans HA.o.1;have eB:=(hk2.block (hb+1) (yo.1 HA.o.2.1).1).trans HA.o.2.1;have c0:=ch 0 mC;have c1:=ch 1 mC;have c2:=ch 2 mC;obtain⟨rB,rF,rG,rH,rI,rJ,rK,rL,rM,rN,rO,rP,zH,zS,zO,zB⟩:=gN w2 (hb+1) _ (yE yH 0) (yE yJ 0) (yE yJ 0) (yE yJ 0) (yB yO) (yB yO) (yE yH 0) (yE yJ (nu k0)) (yE yJ (nu k1)) (yE yJ (nu mk)) (yB (yP ⟨c,0,yO⟩)) (yB yO) (eB);have HZ:=yN (yd zH (yd zO zB));have HK:=yN (yd (dK (bN k0 k1 mk)) (yd (aB HA.o.2.2 hk2) eB));clear zH zS zO zB mC eB dK hk2;go_wp2_with fail;refine bodyPost_ret (eQ rfl rfl HZ.o.1 underlying179 rfl (by kernel_rfl)) rfl ?_;have hw:=HW.o;exact⟨c,rfl,CT.turn HK.o.1 (eJ HK.o.2.2 rfl HZ.o.2.1),HZ.o.2.2 _ _ HK.o.2.1 (by omega)⟩
theorem aQP (k0 k1 mk:UInt64) (c:Nat) (w:World):Calls yM 157 #[yF #[yE yJ (nu k0),yE yJ (nu k1),yE yJ (nu mk)],yB (yP ⟨c,0,yO⟩)] w fun e w'=>e = .returned (Kn.tv (.champ k0 k1 mk) c)∧Kept w w':=by
 obtain⟨hA,hB,hk⟩:=dF w (yL #[yE yJ (nu k0),yE yJ (nu k1),yE yJ (nu mk)] 26) (yL #[yE yH 0,yE yJ (nu k0),yE yJ (nu k1),yE yJ (nu mk),yB (yP ⟨c,0,yO⟩),yB yO] 179);obtain⟨OM,oI,bF⟩:=dF w (yL #[yE yJ (nu k0),yE yJ (nu k1),yE yJ (nu mk)] 26) (yL #[yE yH 0,yE yJ 0,yE yJ 0,yE yJ 0,yB yO,yB yO] 179);have c0:=ch 0 OM;have c1:=ch 1 OM;have c2:=ch 2 OM;have HB:=yN (yd hB hk);clear hA hB hk OM oI bF;go_enter func157,ntmps157;go_wp2_with fail;refine bodyPost_ret (eQ rfl rfl HB.o.1 underlying179 rfl (by kernel_rfl)) rfl ?_;exact⟨rfl,HB.o.2⟩
theorem aRL (w:World):Calls yM 158 #[yB yO] w (OfT .radix w):=by
 obtain⟨aA,hb⟩:=aW w (yL #[yE yH 0,yE yJ 0,yE yJ 0,yE yJ 0,yB yO,yB yO] 179);have HA:=yN (yd hb aA);clear hb aA;go_enter func158,ntmps158;go_wp2_with fail;generalize w.alloc _=w1 at *;obtain⟨rb,aQ⟩:∃ rb,rb=w.heap.size:=⟨_,rfl⟩;rw [← aQ] at HA ⊢;have HW:=yN aQ;clear aQ;refine (a27 w1).mono ?_;rintro e w2 ⟨c,rfl,dK,hk2⟩;have eB:=(hk2.block rb (yo.1 HA.o.1).1).trans HA.o.1;obtain⟨rB,rF,rG,rH,rI,rJ,rK,rL,rM,rN,rO,rP,zH,zS,zO,zB⟩:=gN w2 rb _ (yE yH 0) (yE yJ 0) (yE yJ 0) (yE yJ 0) (yB yO) (yB yO) (yE yH 1) (yE yJ 0) (yE yJ 0) (yE yJ 0) (yB yO) (yB (yP ⟨c,0,yO⟩)) (eB);have HZ:=yN (yd zH (yd zO zB));have HK:=yN (yd (dK 1000) (yd (aB HA.o.2 hk2) eB));clear zH zS zO zB eB dK hk2;go_wp2_with fail;refine bodyPost_ret (eQ rfl rfl HZ.o.1 underlying179 rfl (by kernel_rfl)) rfl ?_;have hw:=HW.o;exact⟨c,rfl,RR.turn HK.o.1 (eJ HK.o.2.2 rfl HZ.o.2.1),HZ.o.2.2 _ _ HK.o.2.1 (by omega)⟩
theorem aQQ (c:Nat) (w:World):Calls yM 158 #[yB (yP ⟨c,0,yO⟩)] w fun e w'=>e = .returned (Kn.tv .radix c)∧Kept w w':=by
 obtain⟨aA,hb⟩:=aW w (yL #[yE yH 1,yE yJ 0,yE yJ 0,yE yJ 0,yB yO,yB (yP ⟨c,0,yO⟩)] 179);have HA:=yN (yd hb aA);clear hb aA;go_enter func158,ntmps158;go_wp2_with fail;refine bodyPost_ret (eQ rfl rfl HA.o.1 underlying179 rfl (by kernel_rfl)) rfl ?_;exact⟨rfl,HA.o.2⟩
theorem aFB (k0 k1 mk:UInt64) (b:Nat) (w:World):Calls yM 168 #[yF #[yE yH 0,yE yJ (nu k0),yE yJ (nu k1),yE yJ (nu mk),yB (yP ⟨b,0,yO⟩),yB yO]] w fun e w'=>e = .returned (yE yH 0)∧Kept w w':=by
 obtain⟨aA,hb⟩:=aW w (yL #[yE yH 0,yE yJ (nu k0),yE yJ (nu k1),yE yJ (nu mk),yB (yP ⟨b,0,yO⟩),yB yO] 179);have HA:=yN (yd hb aA);clear hb aA;go_enter func168,ntmps168;go_wp2_with fail;go_ret;exact⟨rfl,HA.o.2⟩
theorem aFC (b:Nat) (w:World):Calls yM 168 #[yF #[yE yH 1,yE yJ 0,yE yJ 0,yE yJ 0,yB yO,yB (yP ⟨b,0,yO⟩)]] w fun e w'=>e = .returned (yE yH 1)∧Kept w w':=by
 obtain⟨aA,hb⟩:=aW w (yL #[yE yH 1,yE yJ 0,yE yJ 0,yE yJ 0,yB yO,yB (yP ⟨b,0,yO⟩)] 179);have HA:=yN (yd hb aA);clear hb aA;go_enter func168,ntmps168;go_wp2_with fail;go_ret;exact⟨rfl,HA.o.2⟩
theorem aEF (k0 k1 mk:UInt64) (b:Nat) (w:World):Calls yM 187 #[yF #[yE yH 0,yE yJ (nu k0),yE yJ (nu k1),yE yJ (nu mk),yB (yP ⟨b,0,yO⟩),yB yO]] w fun e w'=>e = .returned (yB (yP ⟨b,0,yO⟩))∧Kept w w':=by
 obtain⟨aA,hb⟩:=aW w (yL #[yE yH 0,yE yJ (nu k0),yE yJ (nu k1),yE yJ (nu mk),yB (yP ⟨b,0,yO⟩),yB yO] 179);have HA:=yN (yd hb aA);clear hb aA;go_enter func187,ntmps187;go_wp2_with fail;go_ret;exact⟨rfl,HA.o.2⟩
theorem aEG (b:Nat) (w:World):Calls yM 185 #[yF #[yE yH 1,yE yJ 0,yE yJ 0,yE yJ 0,yB yO,yB (yP ⟨b,0,yO⟩)]] w fun e w'=>e = .returned (yB (yP ⟨b,0,yO⟩))∧Kept w w':=by
 obtain⟨aA,hb⟩:=aW w (yL #[yE yH 1,yE yJ 0,yE yJ 0,yE yJ 0,yB yO,yB (yP ⟨b,0,yO⟩)] 179);have HA:=yN (yd hb aA);clear hb aA;go_enter func185,ntmps185;go_wp2_with fail;go_ret;exact⟨rfl,HA.o.2⟩
theorem aD9 (k0 k1 mk:UInt64) (b:Nat) (w:World):Calls yM 169 #[yF #[yE yH 0,yE yJ (nu k0),yE yJ (nu k1),yE yJ (nu mk),yB (yP ⟨b,0,yO⟩),yB yO]] w fun e w'=>e = .returned (hv k0 k1 mk)∧Kept w w':=by
 obtain⟨aA,hb⟩:=aW w (yL #[yE yH 0,yE yJ (nu k0),yE yJ (nu k1),yE yJ (nu mk),yB (yP ⟨b,0,yO⟩),yB yO] 179);have HA:=yN (yd hb aA);clear hb aA;go_enter func169,ntmps169;go_wp2_with fail;have hb2:=bM (w.alloc (yL #[yE yH 0,yE yJ (nu k0),yE yJ (nu k1),yE yJ (nu mk),yB (yP ⟨b,0,yO⟩),yB yO] 179)) (yL #[yE yJ (nu k0),yE yJ (nu k1),yE yJ (nu mk)] 26);rw [World.size_alloc] at hb2;refine bodyPost_ret (eQ rfl rfl hb2 underlying26 rfl (by kernel_rfl)) rfl ?_;exact⟨rfl,aB HA.o.2 (aZ _ _)⟩
theorem aEA (b:Nat) (w:World):Calls yM 169 #[yF #[yE yH 1,yE yJ 0,yE yJ 0,yE yJ 0,yB yO,yB (yP ⟨b,0,yO⟩)]] w fun e w'=>e = .returned (yF #[yE yJ 0,yE yJ 0,yE yJ 0])∧Kept w w':=by
 obtain⟨aA,hb⟩:=aW w (yL #[yE yH 1,yE yJ 0,yE yJ 0,yE yJ 0,yB yO,yB (yP ⟨b,0,yO⟩)] 179);have HA:=yN (yd hb aA);clear hb aA;go_enter func169,ntmps169;go_wp2_with fail;have hb2:=bM (w.alloc (yL #[yE yH 1,yE yJ 0,yE yJ 0,yE yJ 0,yB yO,yB (yP ⟨b,0,yO⟩)] 179)) (yL #[yE yJ 0,yE yJ 0,yE yJ 0] 26);rw [World.size_alloc] at hb2;refine bodyPost_ret (eQ rfl rfl hb2 underlying26 rfl (by kernel_rfl)) rfl ?_;exact⟨rfl,aB HA.o.2 (aZ _ _)⟩
theorem aS6 (k0 k1 mk:UInt64) (b:Nat) (key:Key) (f:Mp) (w:World) (HH:Hid (CT (bN k0 k1 mk) w 0 b f∧key.size≤1000∧aM f 1000)):Calls yM 115 #[yF #[yE yH 0,yE yJ (nu k0),yE yJ (nu k1),yE yJ (nu mk),yB (yP ⟨b,0,yO⟩),yB yO],yA key] w fun e w'=>e = .returned (.tuple #[yA ((f key).getD yj),yD (f key).isSome])∧Kept w w':=by
 obtain⟨aA,hb⟩:=aW w (yL #[yE yH 0,yE yJ (nu k0),yE yJ (nu k1),yE yJ (nu mk),yB (yP ⟨b,0,yO⟩),yB yO] 179);have HA:=yN (yd hb aA);clear hb aA;go_enter func115,ntmps115;go_wp2_with fail;refine (aVI k0 k1 mk b key f _ (HH.o.1.kept HA.o.2) HH.o.2.1 HH.o.2.2).mono ?_;rintro e w' ⟨rfl,hk⟩;have HK:=yN (aB HA.o.2 hk);clear hk;go_wp2;go_ret2;exact⟨rfl,HK.o⟩
theorem aS7 (b:Nat) (key:Key) (f:Mp) (w:World) (HH:Hid (RR w 1000 b yj f)):Calls yM 115 #[yF #[yE yH 1,yE yJ 0,yE yJ 0,yE yJ 0,yB yO,yB (yP ⟨b,0,yO⟩)],yA key] w fun e w'=>e = .returned (.tuple #[yA ((f key).getD yj),yD (f key).isSome])∧Kept w w':=by
 obtain⟨aA,hb⟩:=aW w (yL #[yE yH 1,yE yJ 0,yE yJ 0,yE yJ 0,yB yO,yB (yP ⟨b,0,yO⟩)] 179);have HA:=yN (yd hb aA);clear hb aA;go_enter func115,ntmps115;go_wp2_with fail;refine (aUQ 1000 b yj key f _ (HH.o.kept HA.o.2)).mono ?_;rintro e w' ⟨rfl,hk⟩;have HK:=yN (aB HA.o.2 hk);clear hk;go_wp2;go_ret2;exact⟨rfl,HK.o⟩
theorem aQR (k0 k1 mk:UInt64) (b:Nat) (f:Mp) (w:World) (HH:Hid (CT (bN k0 k1 mk) w 0 b f∧aM f 39)):Calls yM 118 #[yF #[yE yH 0,yE yJ (nu k0),yE yJ (nu k1),yE yJ (nu mk),yB (yP ⟨b,0,yO⟩),yB yO]] w (WX f w):=by
 obtain⟨aA,hb⟩:=aW w (yL #[yE yH 0,yE yJ (nu k0),yE yJ (nu k1),yE yJ (nu mk),yB (yP ⟨b,0,yO⟩),yB yO] 179);have HA:=yN (yd hb aA);clear hb aA;go_enter func118,ntmps118;go_wp2_with fail;obtain⟨n,l,hz,hh⟩:=HH.o.1.z;have hl:l.length<40:=Nat.lt_succ_of_le (hh.few HH.o.2);have HL:=yN hh;refine (aER _ n l _ (.inl ⟨b,rfl,hz.kept HA.o.2⟩) hl).mono ?_;rintro e w' ⟨v,s,rfl,hs,ho,hk⟩;have HS:=yN (yd (hs.lists hh) (yd (dG ho HA.o.2.size) (aB HA.o.2 hk)));clear hs ho hk hz hh;go_wp2;go_ret;exact⟨v,s,rfl,HS.o⟩
theorem aQS (b:Nat) (f:Mp) (w:World) (HH:Hid (RR w 1000 b yj f∧aM f 39)):Calls yM 118 #[yF #[yE yH 1,yE yJ 0,yE yJ 0,yE yJ 0,yB yO,yB (yP ⟨b,0,yO⟩)]] w (WX f w):=by
 obtain⟨aA,hb⟩:=aW w (yL #[yE yH 1,yE yJ 0,yE yJ 0,yE yJ 0,yB yO,yB (yP ⟨b,0,yO⟩)] 179);have HA:=yN (yd hb aA);clear hb aA;go_enter func118,ntmps118;go_wp2_with fail;obtain⟨n,l,hrl,uJ⟩:=RR.rl HH.o.1 yj (by decide);rw [FV] at uJ;have hl:l.length≤39:=Has.few uJ.has HH.o.2;have HRL:=yN hrl;have E3:=yN uJ;clear hrl uJ;generalize w.alloc _=w1 at *;have e5:=ch 5 HA.o.1;have aP:=yN (dY HA.o.2);refine jE (fun W:World=>W.cell? ⟨w.heap.size,5,yO⟩=yP (yB (yP ⟨b,0,yO⟩))) 5 e5 fun HS=>?_;clear e5;generalize w1.drew=w2 at *;refine tH 0 HS ?_;refine tH 1 HS ?_;go_frame;refine oH 2 fun K hK=>?_;go_simp;refine (aYK w2).mono ?_;rintro e w3 ⟨rfl,hk⟩;have aF:=yN (hk.cell HS.o);have aL:=yN (aB aP.o hk);refine hK _ _ aF.o ?_;clear hK K HS hk aP;have HS:=aF;clear aF;refine oH 3 fun K hK=>?_;go_simp;refine (aS3 b 1000 n yj l w3 (HRL.o.kept aL.o) (by omega)).mono ?_;rintro e w4 ⟨v,rfl,ho,hk⟩;have aF:=yN (hk.cell HS.o);have HO:=yN (yd (dG ho aL.o.size) (aB aL.o hk));refine hK _ _ aF.o ?_;clear hK K HS ho hk aL;have HS:=aF;clear aF;refine oH 4 fun K hK=>?_;go_simp;refine hK _ _ HS.o ?_;clear hK K;refine dA ?_;go_wp2;go_ret;exact⟨v,l,rfl,E3.o,HO.o⟩
theorem aFD (k0 k1 mk:UInt64) (w:World):Calls yM 95 #[yE yH 0,yF #[yE yJ (nu k0),yE yJ (nu k1),yE yJ (nu mk)]] w fun e w'=>∃ b,e = .returned (.tuple #[Kn.tv (.champ k0 k1 mk) b,yE yH 0])∧Kn.is (.champ k0 k1 mk) w' b none_∧Kept w w':=by
 obtain⟨hA,hB,hk⟩:=dF w (yL #[yE yJ (nu k0),yE yJ (nu k1),yE yJ (nu mk)] 26) (yL #[yE yH 0,yE yJ 0,yE yJ 0,yE yJ 0,yB yO,yB yO] 179);have c0:=ch 0 hA;have c1:=ch 1 hA;have c2:=ch 2 hA;have HA:=yN (yd hA (yd hB hk));clear hA hB hk;go_enter func95,ntmps95;go_wp2_with fail;generalize (w.alloc _).alloc _=w1 at *;obtain⟨hb,gM⟩:∃ hb,hb=w.heap.size:=⟨_,rfl⟩;rw [← gM] at HA c0 c1 c2 ⊢;have HW:=yN gM;clear gM;refine (aRK k0 k1 mk w1).mono ?_;rintro e w2 ⟨c,rfl,dK,hk2⟩;have eB:=(hk2.block (hb+1) (yo.1 HA.o.2.1).1).trans HA.o.2.1;obtain⟨rB,rF,rG,rH,rI,rJ,rK,rL,rM,rN,rO,rP,zH,zS,zO,zB⟩:=gN w2 (hb+1) _ (yE yH 0) (yE yJ 0) (yE yJ 0) (yE yJ 0) (yB yO) (yB yO) (yE yH 0) (yE yJ (nu k0)) (yE yJ (nu k1)) (yE yJ (nu mk)) (yB (yP ⟨c,0,yO⟩)) (yB yO) (eB);have HZ:=yN (yd zH (yd zO zB));have HK:=yN (yd dK (yd (aB HA.o.2.2 hk2) eB));clear zH zS zO zB eB dK hk2 c0 c1 c2;unfold Kn.tv;go_wp2_with fail;refine bodyPost_ret (fK rfl rfl HZ.o.1 underlying179 rfl (by kernel_rfl)) rfl ?_;have hw:=HW.o;exact⟨c,rfl,CT.turn HK.o.1 (eJ HK.o.2.2 rfl HZ.o.2.1),HZ.o.2.2 _ _ HK.o.2.1 (by omega)⟩
theorem aFE (k0 k1 mk:UInt64) (w:World):Calls yM 95 #[yE yH 1,yF #[yE yJ (nu k0),yE yJ (nu k1),yE yJ (nu mk)]] w fun e w'=>∃ b,e = .returned (.tuple #[Kn.tv .radix b,yE yH 0])∧Kn.is .radix w' b none_∧Kept w w':=by
 obtain⟨hA,hB,hk⟩:=dF w (yL #[yE yJ (nu k0),yE yJ (nu k1),yE yJ (nu mk)] 26) (yL #[yE yH 0,yE yJ 0,yE yJ 0,yE yJ 0,yB yO,yB yO] 179);have c0:=ch 0 hA;have c1:=ch 1 hA;have c2:=ch 2 hA;have HA:=yN (yd hA (yd hB hk));clear hA hB hk;go_enter func95,ntmps95;go_wp2_with fail;generalize (w.alloc _).alloc _=w1 at *;obtain⟨hb,gM⟩:∃ hb,hb=w.heap.size:=⟨_,rfl⟩;rw [← gM] at HA c0 c1 c2 ⊢;have HW:=yN gM;clear gM;refine (aRL w1).mono ?_;rintro e w2 ⟨c,rfl,dK,hk2⟩;have eB:=(hk2.block (hb+1) (yo.1 HA.o.2.1).1).trans HA.o.2.1;obtain⟨rB,rF,rG,rH,rI,rJ,rK,rL,rM,rN,rO,rP,zH,zS,zO,zB⟩:=gN w2 (hb+1) _ (yE yH 0) (yE yJ 0) (yE yJ 0) (yE yJ 0) (yB yO) (yB yO) (yE yH 1) (yE yJ 0) (yE yJ 0) (yE yJ 0) (yB yO) (yB (yP ⟨c,0,yO⟩)) (eB);have HZ:=yN (yd zH (yd zO zB));have HK:=yN (yd dK (yd (aB HA.o.2.2 hk2) eB));clear zH zS zO zB eB dK hk2 c0 c1 c2;unfold Kn.tv;go_wp2_with fail;refine bodyPost_ret (fK rfl rfl HZ.o.1 underlying179 rfl (by kernel_rfl)) rfl ?_;have hw:=HW.o;exact⟨c,rfl,RR.turn HK.o.1 (eJ HK.o.2.2 rfl HZ.o.2.1),HZ.o.2.2 _ _ HK.o.2.1 (by omega)⟩
theorem aFF (k0 k1 mk:UInt64) (b c:Nat) (w:World):Calls yM 183 #[yF #[yE yH 0,yE yJ (nu k0),yE yJ (nu k1),yE yJ (nu mk),yB (yP ⟨b,0,yO⟩),yB yO],yF #[yE yH 0,yE yJ (nu k0),yE yJ (nu k1),yE yJ (nu mk),yB (yP ⟨c,0,yO⟩),yB yO]] w fun e w'=>e = .returned (yD true)∧Kept w w':=by
 obtain⟨hA,hB,hk⟩:=dF w (yL #[yE yH 0,yE yJ (nu k0),yE yJ (nu k1),yE yJ (nu mk),yB (yP ⟨b,0,yO⟩),yB yO] 179) (yL #[yE yH 0,yE yJ (nu k0),yE yJ (nu k1),yE yJ (nu mk),yB (yP ⟨c,0,yO⟩),yB yO] 179);have b0:=ch 0 hA;have b1:=ch 1 hA;have b2:=ch 2 hA;have b3:=ch 3 hA;have d0:=ch 0 hB;have d1:=ch 1 hB;have d2:=ch 2 hB;have d3:=ch 3 hB;have HB:=yN hk;clear hA hB hk;go_enter func183,ntmps183;go_wp2_with fail;go_ret;exact⟨rfl,HB.o⟩
theorem aFG (b c:Nat) (w:World):Calls yM 183 #[yF #[yE yH 1,yE yJ 0,yE yJ 0,yE yJ 0,yB yO,yB (yP ⟨b,0,yO⟩)],yF #[yE yH 1,yE yJ 0,yE yJ 0,yE yJ 0,yB yO,yB (yP ⟨c,0,yO⟩)]] w fun e w'=>e = .returned (yD true)∧Kept w w':=by
 obtain⟨hA,hB,hk⟩:=dF w (yL #[yE yH 1,yE yJ 0,yE yJ 0,yE yJ 0,yB yO,yB (yP ⟨b,0,yO⟩)] 179) (yL #[yE yH 1,yE yJ 0,yE yJ 0,yE yJ 0,yB yO,yB (yP ⟨c,0,yO⟩)] 179);have b0:=ch 0 hA;have b1:=ch 1 hA;have b2:=ch 2 hA;have b3:=ch 3 hA;have d0:=ch 0 hB;have d1:=ch 1 hB;have d2:=ch 2 hB;have d3:=ch 3 hB;have HB:=yN hk;clear hA hB hk;go_enter func183,ntmps183;go_wp2_with fail;go_ret;exact⟨rfl,HB.o⟩
end
section
open Sip
attribute [local irreducible] look
def YD (K:Kn) (f:Mp) (w:World) (e:Ending) (w':World):Prop:=∃ c,e = .returned (.tuple #[K.tv c,yE yH 0])∧K.is w' c f∧Kept w w'
theorem aS8 (k0 k1 mk:UInt64) (b:Nat) (p:Pr) (f:Mp) (w:World) (HH:Hid (CT (bN k0 k1 mk) w 0 b f∧p.1.size≤256∧p.2.size≤4096∧aM f 1000)):Calls yM 104 #[yF #[yE yH 0,yE yJ (nu k0),yE yJ (nu k1),yE yJ (nu mk),yB (yP ⟨b,0,yO⟩),yB yO],yB yO,yF #[yA p.1,yA p.2]] w (YD (.champ k0 k1 mk) (upd f p.1 (yP p.2)) w):=by
 obtain⟨hA,hP,hB,hk⟩:=GA w (yL #[yE yH 0,yE yJ (nu k0),yE yJ (nu k1),yE yJ (nu mk),yB (yP ⟨b,0,yO⟩),yB yO] 179) (yL #[yA p.1,yA p.2] 52) (yL #[yE yH 0,yE yJ 0,yE yJ 0,yE yJ 0,yB yO,yB yO] 179);have p0:=ch 0 hP;have p1:=ch 1 hP;have HA:=yN (yd hA (yd hP (yd hB hk)));clear hA hP hB hk;go_enter func104,ntmps104;go_wp2_with fail;generalize ((w.alloc _).alloc _).alloc _=w1 at *;obtain⟨tb,mD⟩:∃ tb,tb=w.heap.size:=⟨_,rfl⟩;rw [← mD] at HA p0 p1 ⊢;have HW:=yN mD;clear mD;refine (F0 p.1 p.2 w1 HH.o.2.1 HH.o.2.2.1).mono ?_;rintro e w2 ⟨rfl,rfl⟩;have t0:=ch 0 HA.o.1;have t1:=ch 1 HA.o.1;have t2:=ch 2 HA.o.1;have t3:=ch 3 HA.o.1;have t4:=ch 4 HA.o.1;go_wp2_with fail;refine (aYU k0 k1 mk p b f w1 (by have:=HH.o.2.1;omega) (HH.o.1.kept HA.o.2.2.2) HH.o.2.2.2).mono ?_;rintro e w2 ⟨c,a,rfl,dK,hk2⟩;have jI:=(hk2.block tb (yo.1 HA.o.1).1).trans HA.o.1;have hR2:=(hk2.block (tb+1+1) (yo.1 HA.o.2.2.1).1).trans HA.o.2.2.1;have s4:=ch 4 jI;have OO:=fh 4 jI;have nK:=heap_setCell (o:=4) (v:=yB (yP ⟨c,0,yO⟩)) jI;have OP:∀ i,i≠tb→(w2.setCell ⟨tb,4,yO⟩ (yB (yP ⟨c,0,yO⟩))).heap[i]?=w2.heap[i]?:=fun i hi=>yl _ _ _ _ (by simpa using hi);have AJ:=(OP (tb+1+1) (by omega)).trans hR2;have u0:=ch 0 nK;have u1:=ch 1 nK;have u2:=ch 2 nK;have u3:=ch 3 nK;have u4:=ch 4 nK;have u5:=ch 5 nK;obtain⟨rB,rF,rG,rH,rI,rJ,rK,rL,rM,rN,rO,rP,zH,zS,zO,zB⟩:=gN (w2.setCell ⟨tb,4,yO⟩ (yB (yP ⟨c,0,yO⟩))) (tb+1+1) _ (yE yH 0) (yE yJ 0) (yE yJ 0) (yE yJ 0) (yB yO) (yB yO) (yE yH 0) (yE yJ (nu k0)) (yE yJ (nu k1)) (yE yJ (nu mk)) (yB (yP ⟨c,0,yO⟩)) (yB yO) (AJ);have hk3:Kept w (w2.setCell ⟨tb,4,yO⟩ (yB (yP ⟨c,0,yO⟩))):=(aB HA.o.2.2.2 hk2).setCell (by rw [HW.o];exact ye _) _;have HZ:=yN (yd zH (yd zO zB));have HK:=yN (yd dK (yd hk3 (yd jI (yd OP AJ))));clear zH zS zO zB jI hR2 nK OP AJ dK hk2 hk3 t0 t1 t2 t3 t4 p0 p1;go_wp2_with fail;refine bodyPost_ret (fK rfl rfl HZ.o.1 underlying179 rfl (by kernel_rfl)) rfl ?_;have hw:=HW.o;exact⟨c,rfl,CT.turn (CT.turn HK.o.1 (eJ HK.o.2.2.1 rfl HK.o.2.2.2.1)) (eJ HK.o.2.2.2.2 rfl HZ.o.2.1),HZ.o.2.2 _ _ HK.o.2.1 (by omega)⟩
theorem aS9 (b:Nat) (p:Pr) (f:Mp) (w:World) (HH:Hid (RR w 1000 b yj f∧p.1.size≤256∧p.2.size≤4096∧aM f 1000)):Calls yM 104 #[yF #[yE yH 1,yE yJ 0,yE yJ 0,yE yJ 0,yB yO,yB (yP ⟨b,0,yO⟩)],yB yO,yF #[yA p.1,yA p.2]] w (YD .radix (upd f p.1 (yP p.2)) w):=by
 obtain⟨hA,hP,hB,hk⟩:=GA w (yL #[yE yH 1,yE yJ 0,yE yJ 0,yE yJ 0,yB yO,yB (yP ⟨b,0,yO⟩)] 179) (yL #[yA p.1,yA p.2] 52) (yL #[yE yH 0,yE yJ 0,yE yJ 0,yE yJ 0,yB yO,yB yO] 179);have p0:=ch 0 hP;have p1:=ch 1 hP;have HA:=yN (yd hA (yd hP (yd hB hk)));clear hA hP hB hk;go_enter func104,ntmps104;go_wp2_with fail;generalize ((w.alloc _).alloc _).alloc _=w1 at *;obtain⟨tb,mD⟩:∃ tb,tb=w.heap.size:=⟨_,rfl⟩;rw [← mD] at HA p0 p1 ⊢;have HW:=yN mD;clear mD;refine (F0 p.1 p.2 w1 HH.o.2.1 HH.o.2.2.1).mono ?_;rintro e w2 ⟨rfl,rfl⟩;have t0:=ch 0 HA.o.1;have t1:=ch 1 HA.o.1;have t2:=ch 2 HA.o.1;have t3:=ch 3 HA.o.1;have t4:=ch 5 HA.o.1;go_wp2_with fail;refine (aX8 1000 b yj p f w1 (HH.o.1.kept HA.o.2.2.2) (by have:=HH.o.2.1;omega) (ye _)).mono ?_;rintro e w2 ⟨c,a,rfl,dK,hk2⟩;have jI:=(hk2.block tb (yo.1 HA.o.1).1).trans HA.o.1;have hR2:=(hk2.block (tb+1+1) (yo.1 HA.o.2.2.1).1).trans HA.o.2.2.1;have s4:=ch 5 jI;have OO:=fh 5 jI;have nK:=heap_setCell (o:=5) (v:=yB (yP ⟨c,0,yO⟩)) jI;have OP:∀ i,i≠tb→(w2.setCell ⟨tb,5,yO⟩ (yB (yP ⟨c,0,yO⟩))).heap[i]?=w2.heap[i]?:=fun i hi=>yl _ _ _ _ (by simpa using hi);have AJ:=(OP (tb+1+1) (by omega)).trans hR2;have u0:=ch 0 nK;have u1:=ch 1 nK;have u2:=ch 2 nK;have u3:=ch 3 nK;have u4:=ch 4 nK;have u5:=ch 5 nK;obtain⟨rB,rF,rG,rH,rI,rJ,rK,rL,rM,rN,rO,rP,zH,zS,zO,zB⟩:=gN (w2.setCell ⟨tb,5,yO⟩ (yB (yP ⟨c,0,yO⟩))) (tb+1+1) _ (yE yH 0) (yE yJ 0) (yE yJ 0) (yE yJ 0) (yB yO) (yB yO) (yE yH 1) (yE yJ 0) (yE yJ 0) (yE yJ 0) (yB yO) (yB (yP ⟨c,0,yO⟩)) (AJ);have hk3:Kept w (w2.setCell ⟨tb,5,yO⟩ (yB (yP ⟨c,0,yO⟩))):=(aB HA.o.2.2.2 hk2).setCell (by rw [HW.o];exact ye _) _;have HZ:=yN (yd zH (yd zO zB));have HK:=yN (yd dK (yd hk3 (yd jI (yd OP AJ))));clear zH zS zO zB jI hR2 nK OP AJ dK hk2 hk3 t0 t1 t2 t3 t4 p0 p1;go_wp2_with fail;refine bodyPost_ret (fK rfl rfl HZ.o.1 underlying179 rfl (by kernel_rfl)) rfl ?_;have hw:=HW.o;exact⟨c,rfl,RR.turn (RR.turn HK.o.1 (eJ HK.o.2.2.1 rfl HK.o.2.2.2.1)) (eJ HK.o.2.2.2.2 rfl HZ.o.2.1),HZ.o.2.2 _ _ HK.o.2.1 (by omega)⟩
def V5 (K:Kn) (b:Nat) (f:Mp) (w:World) (e:Ending) (w':World):Prop:=∃ c a,((a=true∧e = .returned (.tuple #[K.tv c,yE yH 0]))∨(a=false∧c=b∧e = .returned (.tuple #[K.tv b,yE yH 4])))∧K.is w' c f∧Kept w w'
theorem aQD (k0 k1 mk:UInt64) (b:Nat) (key:Key) (f:Mp) (w:World) (HH:Hid (CT (bN k0 k1 mk) w 0 b f∧key.size≤256∧aM f 1000)):Calls yM 106 #[yF #[yE yH 0,yE yJ (nu k0),yE yJ (nu k1),yE yJ (nu mk),yB (yP ⟨b,0,yO⟩),yB yO],yB yO,yA key] w (V5 (.champ k0 k1 mk) b (upd f key yO) w):=by
 obtain⟨hA,hB,hk⟩:=dF w (yL #[yE yH 0,yE yJ (nu k0),yE yJ (nu k1),yE yJ (nu mk),yB (yP ⟨b,0,yO⟩),yB yO] 179) (yL #[yE yH 0,yE yJ 0,yE yJ 0,yE yJ 0,yB yO,yB yO] 179);have HA:=yN (yd hA (yd hB hk));clear hA hB hk;go_enter func106,ntmps106;go_wp2_with fail;generalize (w.alloc _).alloc _=w1 at *;obtain⟨tb,mD⟩:∃ tb,tb=w.heap.size:=⟨_,rfl⟩;rw [← mD] at HA ⊢;have HW:=yN mD;clear mD;refine (F0 key ⟨#[]⟩ w1 HH.o.2.1 (by decide)).mono ?_;rintro e w2 ⟨rfl,rfl⟩;obtain⟨aA,hX⟩:=aW w1 (yL #[yE yH 0,yE yJ (nu k0),yE yJ (nu k1),yE yJ (nu mk),yB (yP ⟨b,0,yO⟩),yB yO] 179);have jI:=(aA.block tb (yo.1 HA.o.1).1).trans HA.o.1;have t0:=ch 0 HA.o.1;have t1:=ch 1 HA.o.1;have t2:=ch 2 HA.o.1;have t3:=ch 3 HA.o.1;have t4:=ch 4 HA.o.1;have t5:=ch 5 HA.o.1;have q0:=ch 0 jI;have q1:=ch 1 jI;have q2:=ch 2 jI;have q3:=ch 3 jI;have q4:=ch 4 jI;have q5:=ch 5 jI;have HX:=yN (yd hX aA);have hlt:=(yo.1 HA.o.1).1;have oJ:=yN hlt;clear hX aA jI hlt;go_wp2_with fail;refine (aVL k0 k1 mk key b f _ (by have:=HH.o.2.1;omega) ((HH.o.1.kept HA.o.2.2).kept HX.o.2) HH.o.2.2).mono ?_;rintro e w3 ⟨c,a,rfl,dK,hk3,hcb⟩;obtain⟨xb,fP⟩:∃ xb,xb=w1.heap.size:=⟨_,rfl⟩;have nK:=(hk3.block tb (by have:=HX.o.2.size;have:=oJ.o;omega)).trans ((HX.o.2.block tb oJ.o).trans HA.o.1);have AJ:=(hk3.block (tb+1) (by have:=(yo.1 HA.o.2.1).1;have:=HX.o.2.size;omega)).trans ((HX.o.2.block (tb+1) (yo.1 HA.o.2.1).1).trans HA.o.2.1);have OQ:=(hk3.block w1.heap.size (yo.1 HX.o.1).1).trans HX.o.1;rw [← fP] at OQ ⊢;have HD:=yN (yd dK (yd (aB HA.o.2.2 (aB HX.o.2 hk3)) (yd nK (yd AJ (yd OQ (show xb≠tb by rw [fP];have:=oJ.o;omega))))));have gY:=yN hcb;clear dK hk3 hcb nK AJ OQ fP t0 t1 t2 t3 t4 t5 q0 q1 q2 q3 q4 q5;cases a with
 | true=>
  have pS:=heap_setCell (o:=4) (v:=yB (yP ⟨c,0,yO⟩)) HD.o.2.2.1;have pT:∀ i,i≠tb→(w3.setCell ⟨tb,4,yO⟩ (yB (yP ⟨c,0,yO⟩))).heap[i]?=w3.heap[i]?:=fun i hi=>yl _ _ _ _ (by simpa using hi);have wG:=(pT (tb+1) (by omega)).trans HD.o.2.2.2.1;have kB:=(pT xb HD.o.2.2.2.2.2).trans HD.o.2.2.2.2.1;have s4:=ch 4 HD.o.2.2.1;have OO:=fh 4 HD.o.2.2.1;have u0:=ch 0 pS;have u1:=ch 1 pS;have u2:=ch 2 pS;have u3:=ch 3 pS;have u4:=ch 4 pS;have u5:=ch 5 pS;obtain⟨rB,rF,rG,rH,rI,rJ,rK,rL,rM,rN,rO,rP,zH,zS,zO,zB⟩:=gN (w3.setCell ⟨tb,4,yO⟩ (yB (yP ⟨c,0,yO⟩))) (tb+1) _ (yE yH 0) (yE yJ 0) (yE yJ 0) (yE yJ 0) (yB yO) (yB yO) (yE yH 0) (yE yJ (nu k0)) (yE yJ (nu k1)) (yE yJ (nu mk)) (yB (yP ⟨c,0,yO⟩)) (yB yO) (wG);have hk4:Kept w (w3.setCell ⟨tb,4,yO⟩ (yB (yP ⟨c,0,yO⟩))):=HD.o.2.1.setCell (by rw [HW.o];exact ye _) _;have HZ:=yN (yd zH (yd zO zB));have HK:=yN (yd hk4 (yd pT wG));clear zH zS zO zB pS pT wG kB hk4;go_wp2_with fail;refine bodyPost_ret (fK rfl rfl HZ.o.1 underlying179 rfl (by kernel_rfl)) rfl ?_;have hw:=HW.o;exact⟨c,true,.inl ⟨rfl,rfl⟩,CT.turn (CT.turn HD.o.1 (eJ HD.o.2.2.1 rfl HK.o.2.1)) (eJ HK.o.2.2 rfl HZ.o.2.1),HZ.o.2.2 _ _ HK.o.1 (by omega)⟩
 | false=>
  have pS:=heap_setCell (o:=4) (v:=yB (yP ⟨c,0,yO⟩)) HD.o.2.2.1;have pT:∀ i,i≠tb→(w3.setCell ⟨tb,4,yO⟩ (yB (yP ⟨c,0,yO⟩))).heap[i]?=w3.heap[i]?:=fun i hi=>yl _ _ _ _ (by simpa using hi);have wG:=(pT (tb+1) (by omega)).trans HD.o.2.2.2.1;have kB:=(pT xb HD.o.2.2.2.2.2).trans HD.o.2.2.2.2.1;have s4:=ch 4 HD.o.2.2.1;have OO:=fh 4 HD.o.2.2.1;have u0:=ch 0 kB;have u1:=ch 1 kB;have u2:=ch 2 kB;have u3:=ch 3 kB;have u4:=ch 4 kB;have u5:=ch 5 kB;obtain⟨rB,rF,rG,rH,rI,rJ,rK,rL,rM,rN,rO,rP,zH,zS,zO,zB⟩:=gN (w3.setCell ⟨tb,4,yO⟩ (yB (yP ⟨c,0,yO⟩))) (tb+1) _ (yE yH 0) (yE yJ 0) (yE yJ 0) (yE yJ 0) (yB yO) (yB yO) (yE yH 0) (yE yJ (nu k0)) (yE yJ (nu k1)) (yE yJ (nu mk)) (yB (yP ⟨b,0,yO⟩)) (yB yO) (wG);have hk4:Kept w (w3.setCell ⟨tb,4,yO⟩ (yB (yP ⟨c,0,yO⟩))):=HD.o.2.1.setCell (by rw [HW.o];exact ye _) _;have HZ:=yN (yd zH (yd zO zB));have HK:=yN (yd hk4 (yd pT wG));clear zH zS zO zB pS pT wG kB hk4;go_wp2_with fail;refine bodyPost_ret (fK rfl rfl HZ.o.1 underlying179 rfl (by kernel_rfl)) rfl ?_;have hw:=HW.o;exact⟨c,false,.inr ⟨rfl,(by first | exact gY.o rfl | exact gY.o trivial),rfl⟩,CT.turn (CT.turn HD.o.1 (eJ HD.o.2.2.1 rfl HK.o.2.1)) (eJ HK.o.2.2 rfl HZ.o.2.1),HZ.o.2.2 _ _ HK.o.1 (by omega)⟩
theorem aQE (b:Nat) (key:Key) (f:Mp) (w:World) (HH:Hid (RR w 1000 b yj f∧key.size≤256∧aM f 1000)):Calls yM 106 #[yF #[yE yH 1,yE yJ 0,yE yJ 0,yE yJ 0,yB yO,yB (yP ⟨b,0,yO⟩)],yB yO,yA key] w (V5 .radix b (upd f key yO) w):=by
 obtain⟨hA,hB,hk⟩:=dF w (yL #[yE yH 1,yE yJ 0,yE yJ 0,yE yJ 0,yB yO,yB (yP ⟨b,0,yO⟩)] 179) (yL #[yE yH 0,yE yJ 0,yE yJ 0,yE yJ 0,yB yO,yB yO] 179);have HA:=yN (yd hA (yd hB hk));clear hA hB hk;go_enter func106,ntmps106;go_wp2_with fail;generalize (w.alloc _).alloc _=w1 at *;obtain⟨tb,mD⟩:∃ tb,tb=w.heap.size:=⟨_,rfl⟩;rw [← mD] at HA ⊢;have HW:=yN mD;clear mD;refine (F0 key ⟨#[]⟩ w1 HH.o.2.1 (by decide)).mono ?_;rintro e w2 ⟨rfl,rfl⟩;obtain⟨aA,hX⟩:=aW w1 (yL #[yE yH 1,yE yJ 0,yE yJ 0,yE yJ 0,yB yO,yB (yP ⟨b,0,yO⟩)] 179);have jI:=(aA.block tb (yo.1 HA.o.1).1).trans HA.o.1;have t0:=ch 0 HA.o.1;have t1:=ch 1 HA.o.1;have t2:=ch 2 HA.o.1;have t3:=ch 3 HA.o.1;have t4:=ch 4 HA.o.1;have t5:=ch 5 HA.o.1;have q0:=ch 0 jI;have q1:=ch 1 jI;have q2:=ch 2 jI;have q3:=ch 3 jI;have q4:=ch 4 jI;have q5:=ch 5 jI;have HX:=yN (yd hX aA);have hlt:=(yo.1 HA.o.1).1;have oJ:=yN hlt;clear hX aA jI hlt;go_wp2_with fail;refine (aUS 1000 b yj key f _ ((HH.o.1.kept HA.o.2.2).kept HX.o.2) (ye _)).mono ?_;rintro e w3 ⟨c,a,rfl,dK,hk3,hcb⟩;obtain⟨xb,fP⟩:∃ xb,xb=w1.heap.size:=⟨_,rfl⟩;have nK:=(hk3.block tb (by have:=HX.o.2.size;have:=oJ.o;omega)).trans ((HX.o.2.block tb oJ.o).trans HA.o.1);have AJ:=(hk3.block (tb+1) (by have:=(yo.1 HA.o.2.1).1;have:=HX.o.2.size;omega)).trans ((HX.o.2.block (tb+1) (yo.1 HA.o.2.1).1).trans HA.o.2.1);have OQ:=(hk3.block w1.heap.size (yo.1 HX.o.1).1).trans HX.o.1;rw [← fP] at OQ ⊢;have HD:=yN (yd dK (yd (aB HA.o.2.2 (aB HX.o.2 hk3)) (yd nK (yd AJ (yd OQ (show xb≠tb by rw [fP];have:=oJ.o;omega))))));have gY:=yN hcb;clear dK hk3 hcb nK AJ OQ fP t0 t1 t2 t3 t4 t5 q0 q1 q2 q3 q4 q5;cases a with
 | true=>
  have pS:=heap_setCell (o:=5) (v:=yB (yP ⟨c,0,yO⟩)) HD.o.2.2.1;have pT:∀ i,i≠tb→(w3.setCell ⟨tb,5,yO⟩ (yB (yP ⟨c,0,yO⟩))).heap[i]?=w3.heap[i]?:=fun i hi=>yl _ _ _ _ (by simpa using hi);have wG:=(pT (tb+1) (by omega)).trans HD.o.2.2.2.1;have kB:=(pT xb HD.o.2.2.2.2.2).trans HD.o.2.2.2.2.1;have s4:=ch 5 HD.o.2.2.1;have OO:=fh 5 HD.o.2.2.1;have u0:=ch 0 pS;have u1:=ch 1 pS;have u2:=ch 2 pS;have u3:=ch 3 pS;have u4:=ch 4 pS;have u5:=ch 5 pS;obtain⟨rB,rF,rG,rH,rI,rJ,rK,rL,rM,rN,rO,rP,zH,zS,zO,zB⟩:=gN (w3.setCell ⟨tb,5,yO⟩ (yB (yP ⟨c,0,yO⟩))) (tb+1) _ (yE yH 0) (yE yJ 0) (yE yJ 0) (yE yJ 0) (yB yO) (yB yO) (yE yH 1) (yE yJ 0) (yE yJ 0) (yE yJ 0) (yB yO) (yB (yP ⟨c,0,yO⟩)) (wG);have hk4:Kept w (w3.setCell ⟨tb,5,yO⟩ (yB (yP ⟨c,0,yO⟩))):=HD.o.2.1.setCell (by rw [HW.o];exact ye _) _;have HZ:=yN (yd zH (yd zO zB));have HK:=yN (yd hk4 (yd pT wG));clear zH zS zO zB pS pT wG kB hk4;go_wp2_with fail;refine bodyPost_ret (fK rfl rfl HZ.o.1 underlying179 rfl (by kernel_rfl)) rfl ?_;have hw:=HW.o;exact⟨c,true,.inl ⟨rfl,rfl⟩,RR.turn (RR.turn HD.o.1 (eJ HD.o.2.2.1 rfl HK.o.2.1)) (eJ HK.o.2.2 rfl HZ.o.2.1),HZ.o.2.2 _ _ HK.o.1 (by omega)⟩
 | false=>
  have pS:=heap_setCell (o:=5) (v:=yB (yP ⟨c,0,yO⟩)) HD.o.2.2.1;have pT:∀ i,i≠tb→(w3.setCell ⟨tb,5,yO⟩ (yB (yP ⟨c,0,yO⟩))).heap[i]?=w3.heap[i]?:=fun i hi=>yl _ _ _ _ (by simpa using hi);have wG:=(pT (tb+1) (by omega)).trans HD.o.2.2.2.1;have kB:=(pT xb HD.o.2.2.2.2.2).trans HD.o.2.2.2.2.1;have s4:=ch 5 HD.o.2.2.1;have OO:=fh 5 HD.o.2.2.1;have u0:=ch 0 kB;have u1:=ch 1 kB;have u2:=ch 2 kB;have u3:=ch 3 kB;have u4:=ch 4 kB;have u5:=ch 5 kB;obtain⟨rB,rF,rG,rH,rI,rJ,rK,rL,rM,rN,rO,rP,zH,zS,zO,zB⟩:=gN (w3.setCell ⟨tb,5,yO⟩ (yB (yP ⟨c,0,yO⟩))) (tb+1) _ (yE yH 0) (yE yJ 0) (yE yJ 0) (yE yJ 0) (yB yO) (yB yO) (yE yH 1) (yE yJ 0) (yE yJ 0) (yE yJ 0) (yB yO) (yB (yP ⟨b,0,yO⟩)) (wG);have hk4:Kept w (w3.setCell ⟨tb,5,yO⟩ (yB (yP ⟨c,0,yO⟩))):=HD.o.2.1.setCell (by rw [HW.o];exact ye _) _;have HZ:=yN (yd zH (yd zO zB));have HK:=yN (yd hk4 (yd pT wG));clear zH zS zO zB pS pT wG kB hk4;go_wp2_with fail;refine bodyPost_ret (fK rfl rfl HZ.o.1 underlying179 rfl (by kernel_rfl)) rfl ?_;have hw:=HW.o;exact⟨c,false,.inr ⟨rfl,(by first | exact gY.o rfl | exact gY.o trivial),rfl⟩,RR.turn (RR.turn HD.o.1 (eJ HD.o.2.2.1 rfl HK.o.2.1)) (eJ HK.o.2.2 rfl HZ.o.2.1),HZ.o.2.2 _ _ HK.o.1 (by omega)⟩
end
section
open Sip
attribute [local irreducible] look
variable {w':World} {v kv:Value} {g b:Nat}
theorem aGI (w:World) (o:Obj):w.grownBy (w.drew.alloc o) yO:=⟨rfl,rfl,rfl,by simp,fun k hk _=>heap_alloc_old w.drew _ hk⟩
theorem aJG {P:Program} (w:World) (base:Nat) (t ty e:TypeId) (i:TypeInfo) (z:Value) (size bytes:Nat) (ht:P.underlying t=yP (.slice e)) (hi:P.info? e=yP i) (hz:i.zero=yP z) (hsize:i.size=size) (hby:i.bytes=bytes)
  (hzs:z.cells.size=size) (hsz:0<size) (v:Value) (n:Nat) (xs:List Value) (hown:w.ownsRow base e size v n xs) (a:Addr) (m c:Nat) (news:List Value) (hl:news.length=m*size) (hnews:∀ j u,news[j]?=yP u→w.cell? (a.add j)=yP u)
  (h1:∀ u∈news,u.oneCell'=true) (hm:0<m) (h63:n+m≤maxLen) (hbytes:(n+m)*bytes≤140737488355328) (hbase:base≤w.heap.size) :
  ∃ v' w',(Builtin.append_ #[t,t] ty #[v,yC (yP a) m c]).run P w = .ok v' w'∧w'.ownsRow base e size v' (n+m) (xs++news)∧w.grownBy w' v.ownBlock∧((v'.ownBlock=v.ownBlock∧v.ownBlock≠yO)∨(v'.ownBlock=yP w.heap.size∧w.grownBy w' yO)):=by
 obtain⟨v',w',hr,h2,h3,h4,h5⟩:=run_append_own_at (P:=P) w base t ty e i z size bytes ht hi hz hsize hby hzs hsz v n xs hown a m c news hl hnews h1 h63 hbytes hbase;refine⟨v',w',hr,h2,h3,?_⟩;subst hsize;subst hby;have bHW:n+m≤9223372036854775807:=by simp only [maxLen] at h63;omega
 rcases hown.2 with ⟨rfl,rfl⟩ | ⟨g,cap,cur,rfl,hbg,hg,kQ,hcm,hcs,aJZ⟩
 ·have hx:xs=[]:=List.eq_nil_of_length_eq_zero (by simpa using hown.1);subst hx;have hr2:=run_append_nil (P:=P) w t ty e i z ht hi hz a m c news hl hnews hm (by omega) (by have hb:=hbytes;simp only [Nat.zero_add] at hb;omega);rw [hr] at hr2;injection hr2 with e1 e2
  subst e1 e2;exact .inr ⟨rfl,aGI _ _⟩
 by_cases hroom:n+m≤cap
 ·have a9C:n*i.size+news.length≤cur.size:=by rw [hl,hcs,← Nat.add_mul];exact Nat.mul_le_mul_right _ hroom
  have hr2:=run_append_room (P:=P) w t ty e i ht hi g n cap cur hg a m c news hl hnews h1 hroom a9C;rw [hr] at hr2;injection hr2 with e1 e2
  subst e1;exact .inl ⟨rfl,by simp [Value.ownBlock]⟩
 have holds:∀ j u,xs[j]?=yP u→w.cell? ((⟨g,0,yO⟩:Addr).add j)=yP u:=hown.cells (g:=g) rfl;have hr2:=run_append_grow (P:=P) w t ty e i z ht hi hz ⟨g,0,yO⟩ n cap xs hown.1 holds a m c news hl hnews (by omega) (by omega) (growslice_fits (by omega) hbytes);rw [hr] at hr2;injection hr2 with e1 e2
 subst e1 e2;exact .inr ⟨rfl,aGI _ _⟩
theorem aTW {w:World} (h:w.grownBy w' yO):Kept w w':=Below.grown (yk _ w) h (ye _) (fun g hg=>by cases hg)
variable {e t:TypeId} {k bytes:Nat} {z:Value} {w:World} {ops:Array Oper} {rest:List Oper} {o:Oper} {a:Act} {Q:Exit→Act→World→Prop}
theorem a9D (E:EI e t k bytes z) (hg:o.guard=yO) (s x:Operand) (ho:o.op = .call { callee:=.builtin .append,args:=#[s,x],argTypes:=#[t,t] }) (B:Nat) (n:Nat) (news:List Value) {xs:List Value}
  (hs:a.eval s=v) (hown:w.ownsRow B e k v n xs) (hB:B≤w.heap.size) (hx:a.eval x=yC (yP ⟨w.heap.size,0,yO⟩) 1 1) (hl:news.length=k) (h1:∀ u∈news,u.oneCell'=true) (hn:n≤1000000)
  (h:∀ v' w',w'.ownsRow B e k v' (n+1) (xs++news)→Below B w w'→World.grownBy w w' v.ownBlock→((v'.ownBlock=v.ownBlock∧v.ownBlock≠yO)∨(v'.ownBlock=yP (w.heap.size+1)∧Kept w w'))→wpList yM ops Q rest (a.put o.dst v') w') :
  wpList yM ops Q (o::rest) a (w.alloc (yL news.toArray e)):=by
 obtain⟨i,hi,hz,hsz,hby⟩:=E.i;have n9:=E.b;have aA:=aZ w (yL news.toArray e);have hw:=World.size_alloc w (yL news.toArray e);refine wpList_plain hg fun K hK=>?_;obtain⟨v',w',hr,h2,h3,h5⟩:=aJG (P:=yM) (w.alloc (yL news.toArray e)) B t o.type e i z k bytes E.u hi hz hsz hby E.z E.k v n xs (bT hown aA) ⟨w.heap.size,0,yO⟩ 1 1 news (by omega) (QH w news e) h1 (by omega) (by unfold maxLen;omega) (yf (Nat.mul_le_mul (show n+1≤1000001 by omega) n9) (by omega)) (by omega);unfold Oper.wp execOp;simp only [ho,resolve,invoke,builtin,Sem.run_bind,Sem.run_pure,Result.andThen_ok,List.map_toArray,List.map_cons,List.map_nil,hs,hx,hr];refine hK _ _ (h v' w' h2 (Below.grown ((yk B w).alloc hB _) h3 (by omega) (fun g hg=>(hown.lt g hg).1)) ?_ ?_);·exact⟨h3.os,h3.tape,h3.output,by have:=h3.size;omega,fun j hj hne=>(h3.block j (by omega) hne).trans (aA.block j hj)⟩
 rcases h5 with h5 | ⟨h5,h6⟩
 ·exact .inl h5
 exact .inr ⟨by rw [h5,hw],aB aA (aTW h6)⟩
structure wN (g:Nat) (w w':World):Prop where
 o:∀ i,i<w.heap.size→i≠g→w'.heap[i]?=w.heap[i]?
 c:∃ k v x,w.cell? ⟨g,0,yO⟩=yP (yA k)∧w.cell? ⟨g,1,yO⟩=yP (yA v)∧w.cell? ⟨g,2,yO⟩=yP (yD x)∧w'.cell? ⟨g,0,yO⟩=yP (yA k)∧w'.cell? ⟨g,1,yO⟩=yP (yA v)
theorem wN.cell {g:Nat} {w w':World} (h:wN g w w') {p:Addr} {u:Value} (hp:w.cell? p=yP u) (hne:p.block≠g):w'.cell? p=yP u:=(zn (h.o _ (mU hp) hne)).trans hp
theorem wN.uz {w:World} (h:wN g w w') (hu:UZ w b) (hne:b≠g):UZ w' b:=by
 obtain⟨cs,t,e⟩:=hu;exact⟨cs,t,(h.o b (yo.1 e).1 hne).trans e⟩
theorem Rd.tI {w:World} (h:wN g w w') {l:List Pr} (hr:Rd w v l.length (aK l)) (hz:z0 v):Rd w' v l.length (aK l):=by
 rcases hr with hr | ⟨b,off,cap,rfl,h2,h3,h4,h5⟩
 ·exact .inl hr
 have ho:=hz b off yO _ cap rfl;subst ho;refine .inr ⟨b,0,cap,rfl,h2,h3,h4,fun j u hj=>?_⟩;by_cases hb:b=g
 ·subst hb;obtain⟨k,x,y,c0,c1,c2,d0,d1⟩:=h.c;cases l with
  | nil=>cases hj
  | cons p l=>
   cases l with
   | nil=>
    have vT:j<2:=(List.getElem?_eq_some_iff.1 hj).1;have:=h5 j u hj;rw [Nat.zero_add] at this ⊢;have qZ:j=0∨j=1:=by omega
    rcases qZ with rfl | rfl
    ·rw [c0] at this;rw [d0,this]
    rw [c1] at this;rw [d1,this]
   | cons q l=>
    have:=h5 2 (yA q.1) rfl;rw [Nat.zero_add,c2] at this;cases this
 exact h.cell (h5 j u hj) hb
theorem Rd.WZ {w:World} (h:wN g w w') {n:Nat} {cs:List Value} (hr:Rd w v n cs) (hz:z0 v) (hp:∀ u,cs[0]?=yP u→∃ q,u = .pointer q):Rd w' v n cs:=by
 rcases hr with hr | ⟨b,off,cap,rfl,h2,h3,h4,h5⟩
 ·exact .inl hr
 have ho:=hz b off yO _ cap rfl;subst ho;refine .inr ⟨b,0,cap,rfl,h2,h3,h4,fun j u hj=>?_⟩;cases e0:cs[0]? with
 | none=>
  have:cs=[]:=by simpa using e0
  rw [this] at hj;cases hj
 | some u0=>
  refine h.cell (h5 j u hj) fun e=>?_;obtain⟨q,rfl⟩:=hp u0 e0;have h0:=h5 0 _ e0;obtain⟨k,x,y,c0,_⟩:=h.c;have e:b=g:=e;subst e;rw [Nat.zero_add,c0] at h0;cases h0
theorem NA.tI {w:World} {data nodes:Nat} {pv:Value} {bk:Bool} (h:NA w b data nodes pv kv bk) (ht:wN g w w'):NA w' b data nodes pv kv bk:=by
 have hne:b≠g:=fun e=>by
  obtain⟨k,x,y,c0,_⟩:=ht.c;have:=h.c0;rw [e,c0] at this;cases this
 exact⟨⟨h.z.1,ht.uz h.z.2 hne⟩,ht.cell h.c0 hne,ht.cell h.c1 hne,ht.cell h.c2 hne,ht.cell h.c3 hne,ht.cell h.c4 hne,let ⟨o,ho⟩:=h.c5;⟨o,ht.cell ho hne⟩⟩
theorem NR.tI {w:World} {lab val:Key} {has:Bool} (h:NR w b lab has val kv) (ht:wN g w w'):NR w' b lab has val kv:=by
 have hne:b≠g:=fun e=>by
  obtain⟨k,x,y,_,c1,_⟩:=ht.c;have:=h.c1;rw [e,c1] at this;cases this
 exact⟨⟨h.z.1,ht.uz h.z.2 hne⟩,ht.cell h.c0 hne,ht.cell h.c1 hne,ht.cell h.c2 hne,ht.cell h.c3 hne,let ⟨o,ho⟩:=h.c4;⟨o,ht.cell ho hne⟩⟩
theorem aGJ {l:List Nat} : ∀ u,(l.map ptr)[0]?=yP u→∃ q,u = .pointer q:=by
 intro u hu;cases l with
 | nil=>cases hu
 | cons x l=>cases hu;exact⟨_,rfl⟩
theorem CT.tI {hs:Key→Nat} {g:Nat} {w w':World} {lvl b:Nat} {f:Mp} (h:CT hs w lvl b f) (ht:wN g w w'):CT hs w' lvl b f:=by
 induction h with
 | bucket b l h0 h3=>
  obtain⟨pv,kv,a0,a1,a2⟩:=h0;exact .bucket b l ⟨pv,kv,a0.tI ht,Rd.tI ht a1 a0.z.1.1,Rd.WZ ht a2 a0.z.1.2 (fun u hu=>by cases hu)⟩ h3
 | inner lvl b P Q fs hl h0 h1 h2 h3 h4 ih=>
  obtain⟨data,nodes,pv,kv,a0,a1,a2,a3,a4⟩:=h0;exact .inner lvl b P Q fs hl ⟨data,nodes,pv,kv,a0.tI ht,a1,a2,Rd.tI ht a3 a0.z.1.1,Rd.WZ ht a4 a0.z.1.2 aGJ⟩ h1 ih h3 h4
theorem RR.tI {g:Nat} {w w':World} {d b:Nat} {lab:Key} {f:Mp} (h:RR w d b lab f) (ht:wN g w w'):RR w' d b lab f:=by
 induction h with
 | mk d b lab has val kv ks f h0 h1 h2 h3 h4 h5 h6 h7 ih=>
  exact .mk d b lab has val kv ks f (h0.tI ht) (Rd.WZ ht h1 h0.z.1 (fun u hu=>aGJ (l:=ks.map fun q=>q.b) u (by rw [List.map_map];exact hu))) h2 h3 h4 ih h6 h7
theorem Kn.is.tI {K:Kn} {g:Nat} {w w':World} {b:Nat} {f:Mp} (h:K.is w b f) (ht:wN g w w'):K.is w' b f:=by
 cases K with
 | champ=>exact CT.tI h ht
 | radix=>exact RR.tI h ht
end
end Go.Proofs.YtcldomgdkhenpaaGreat
