/- Lemmas. -/
import Derived.Test.YtcldomgdkhenpaaGreatJ27
import Derived.CellFam
import Derived.IntWalk
set_option linter.unusedVariables false
set_option maxRecDepth 1000000
set_option maxHeartbeats 40000000
open Go.Proofs.Tryz
open Go.Proofs.Tryz renaming prog → yM
open Go.Value renaming string → yA,pointer → yB,slice → yC,bool → yD,int → yE,func → yG
open Go.IntKind renaming i64 → yH,u32 → yI,u8 → yK
open Go.Obj renaming cells → yL
open Option renaming none → yO,some → yP
open Go.Lib renaming hid → yN
open And renaming intro → yd
open Go.RowKit.Below renaming drew → ym,refl → yk
open Nat renaming le_of_eq → yh,le_refl → ye,zero_le → yg
open Go.RowKit
namespace Go.Proofs.YtcldomgdkhenpaaGreat
section
open Sip
attribute [local irreducible] look
def DO (s:Key):Prop:=1≤s.size∧s.size≤32∧∀ b∈s.data.toList,33≤b.toNat∧b.toNat≤126
theorem aTD (x:Int) (w:World) (h1:33≤x) (h2:x≤126):Calls yM 286 #[yE yK x] w fun e w'=>e = .returned (yD false)∧w'=w:=by
 have qX:¬ x<33:=by omega
 have uF:¬ 126<x:=by omega
 go_enter func286,ntmps286;go_wp2_with fail;go_ret;exact⟨rfl,rfl⟩
theorem aTE (g o n cap:Nat) (X:Nat→Int) (w:World) (hc:∀ t,t<n→w.cell? ⟨g,o+t,yO⟩=yP (yE yK (X t))) (hx:∀ t,t<n→33≤X t∧X t≤126) (hn:n≤1000) :
  Calls yM 345 #[yC (yP ⟨g,o,yO⟩) n cap,yG (.func 286) #[] #[]] w fun e w'=>e = .returned (yE yH (-1))∧w'=w:=by
 have HX:=yN hx;have eg:=enters_of func286 (by kernel_rfl) rfl;go_enter func345,ntmps345;go_wp2_with fail
 go_loopg [8] n (fun kx s8 wr=>∃ i:Nat,s8=yE yH i∧i≤n∧n-i≤kx∧wr=w)
 case atStart=>exact⟨0,rfl,yg _,by omega,rfl⟩
 obtain⟨i,rfl,dI,hm,rfl⟩:=hrel;by_cases hlt:i<n
 ·have cD:(i:Int)<(n:Int):=by omega
  have hxi:=HX.o i hlt;go_wp2_with fail;refine (aTD (X i) _ hxi.1 hxi.2).mono ?_;rintro e w' ⟨rfl,rfl⟩;go_wp2_with fail;go_roundg (n-(i+1));case measure=>omega
  exact⟨i+1,by go_num,by omega,ye _,rfl⟩
 have cD:¬ (i:Int)<(n:Int):=by omega
 go_wp2_with fail;go_ret;exact⟨rfl,rfl⟩
theorem aQF (g o n cap:Nat) (X:Nat→Int) (w:World) (hc:∀ t,t<n→w.cell? ⟨g,o+t,yO⟩=yP (yE yK (X t))) (hx:∀ t,t<n→33≤X t∧X t≤126) (hn:n≤1000) :
  Calls yM 285 #[yC (yP ⟨g,o,yO⟩) n cap,yG (.func 286) #[] #[]] w fun e w'=>e = .returned (yD false)∧w'=w:=by
 have HI:=yN (aTE g o n cap X w hc hx hn);go_enter func285,ntmps285;go_wp2_with fail;refine HI.o.mono ?_;rintro e w' ⟨rfl,rfl⟩;go_wp2_with fail;go_ret;exact⟨rfl,rfl⟩
theorem aPS {w:World} {g j:Nat} {cur:Array Value} {e:TypeId} {fr:Nat × Nat} {v:Value} (h:w.heap[g]?=yP (yL cur e fr)) (hv:cur[j]?=yP v):w.cell? ⟨g,j,yO⟩=yP v:=by
 unfold World.cell?;rw [h];simpa using hv
theorem aTF (s:Key) (w:World) (hs:DO s):Calls yM 225 #[yA s] w fun e w'=>e = .returned (yD true)∧Kept w w':=by
 obtain⟨h1,h2,h3⟩:=hs;have hcv:=run_bytes_of_string (P:=yM) w 9 103 5 s underlying9 underlying103 underlying5;obtain⟨cap,iE⟩:∃ cap,cap=grownCap w s.size 0 5:=⟨_,rfl⟩;rw [← iE] at hcv;obtain⟨fr,pN⟩:∃ fr,fr=((bytesRow s cap).size,(bytesRow s cap).size+1):=⟨_,rfl⟩;rw [← pN] at hcv;obtain⟨w1,cR⟩:∃ w1,w1=w.drew.alloc (yL (bytesRow s cap) 5 fr):=⟨_,rfl⟩;have hk:Kept w w1:=by rw [cR];exact (ym (yk _ w)).alloc (ye _) _
 have hb:w1.heap[w.heap.size]?=yP (yL (bytesRow s cap) 5 fr):=by rw [cR];exact bM w.drew _
 rw [← cR] at hcv;have hb1:∀ t,t<s.size→(bytesRow s cap)[t]?=yP (yE yK ((s.data[t]?.getD 0).toNat:Nat)):=fun t ht=>by
  unfold bytesRow;rw [Array.getElem?_append_left (by simpa using ht)];rw [Array.getElem?_map,Array.getElem?_eq_getElem (by simpa using ht)];rfl
 have hc:∀ t,t<s.size→w1.cell? ⟨w.heap.size,0+t,yO⟩=yP (yE yK ((s.data[t]?.getD 0).toNat:Nat)):=fun t ht=>by
  rw [Nat.zero_add];exact aPS hb (hb1 t ht)
 have hx:∀ t,t<s.size→33≤(((s.data[t]?.getD 0).toNat:Nat):Int)∧(((s.data[t]?.getD 0).toNat:Nat):Int)≤126:=fun t ht=>by
  have hm:=h3 (s.data[t]'(by simpa using ht)) (by simp);rw [Array.getElem?_eq_getElem (by simpa using ht)];show 33≤(((s.data[t]'(by simpa using ht)).toNat:Nat):Int)∧_;constructor;·exact_mod_cast hm.1
  show (((s.data[t]'(by simpa using ht)).toNat:Nat):Int)≤126
  exact_mod_cast hm.2
 have HC:=yN (aQF w.heap.size 0 s.size cap _ w1 hc hx (by omega));have HK:=yN hk;have qX:¬ ((s.size:Nat):Int)<1:=by omega
 have uF:¬ (32:Int)<((s.size:Nat):Int):=by omega
 clear hk hb hb1 hc hx h3 cR iE pN;go_enter func225,ntmps225;go_wp2_with fail;refine HC.o.mono ?_;rintro e w2 ⟨rfl,rfl⟩;go_wp2_with fail;go_ret;exact⟨rfl,HK.o⟩
end
section
open Sip
attribute [local irreducible] look
variable {K:Kn} {V:VI} {n nb I8:Nat} {par:Nat→List Nat} {tm:Nat→Mp} {br E7:Key→Option Nat} {w w':World}
theorem VR.sb (h:VR K V n nb par tm br w) (ht:BK V.bb w w'):Sm V.S w w':=(Sm.LG ht).more fun i hi=>.inr (.inr (.inr hi))
theorem VR.branch (h:VR K V n nb par tm br w) (hm:MF 9 gs w' V.bb I8 (nM E7)) (ht:BK V.bb w w') (hbl:∀ k i,E7 k=yP i→i≤n) (aO:I8≤2):VR K V n I8 par tm E7 w':=by
 have hs:=h.sb ht;have kZ:=h.turns hs;obtain⟨F,hF⟩:=h.g;obtain⟨tr,h1,h2⟩:=h.t;refine⟨(ht.same V.vb fun e=>h.off (.inr (.inr (.inr e)))).trans h.c,h.e.turn (tb:=0) kZ,⟨F,hF.off (S:=fun i=>i=V.bb) ⟨yh ht.size.symm,fun i _ hi=>ht.same i hi,fun i cur hi hc=>?_⟩ h.MD.2.2 h.d.2.1⟩,⟨tr,h1.stay (ht.same _ h.d.2.2),fun i a b=>(h2 i a b).turn (tb:=0) kZ⟩,hm,hbl,h.few,h.d,aO⟩;obtain⟨es,ck,he⟩:=h.b.heap;rw [hi,he] at hc;cases hc
theorem VR.aLF (h:VR K V n nb par tm br w) {name:Key} (hs:name.size≤100) {i:Nat} (hi:i≤n) (aO:(if (br name).isSome then nb else nb+1)≤2) :
  ∃ w',(Instr.mapUpdate 186 (.map (yP V.bb)) (yA name) (yE yI i)).run yM w = .ok () w'∧VR K V n (if (br name).isSome then nb else nb+1) par tm (fun k=>if k=name then yP i else br k) w'∧Sm V.S w w'∧w'.heap.size=w.heap.size:=by
 obtain⟨w',hr,hm,ht⟩:=h.b.put XB JU underlying186 (by have:=h.n;unfold maxLen;omega) (WN (s:=name) (by unfold maxLen;omega)) (yE yI i);have e1:(nM br name).isSome=(br name).isSome:=by unfold nM;cases br name <;> rfl
 rw [e1] at hm;refine⟨w',hr,h.branch (E7:=fun k=>if k=name then yP i else br k) (hm.funext fun k=>?_) ht (fun k j hj=>?_) aO,h.sb ht,ht.size⟩
 ·unfold nM;by_cases e:k=name;·simp [e]
  simp [e]
 by_cases e:k=name;·simp [e] at hj;omega
 simp [e] at hj;exact h.bl k j hj
def aJX (K:Kn) (V:VI) (n nb:Nat) (par:Nat→List Nat) (tm:Nat→Mp) (br:Key→Option Nat) (name:Key) (i:Nat) (w:World) (e:Ending) (w':World):Prop:=
 e = .returned (yE yH 0)∧VR K V n (nb+1) par tm (fun k=>if k=name then yP i else br k) w'∧Sm V.S w w'
theorem aY3 (name:Key) (i:Nat) (w:World) (h:VR K V n nb par tm br w) (hs:DO name) (hb:br name=yO) (hi:i≤n) (aO:nb+1≤2) :
  Calls yM 159 #[.map (yP V.bb),yB (yP ⟨V.vb,0,yO⟩),yA name,yE yI i,yD false] w (aJX K V n nb par tm br name i w):=by
 have hl:=h.look (name:=name) (by have:=hs.2.1;omega);rw [hb] at hl;have HV:=yN h;have HN:=yN hs;have hn:=h.n100;have hz:name.size≤100:=by have:=hs.2.1;omega
 go_enter func159,ntmps159;go_wp2_with fail;refine (aTF name w HN.o).mono ?_;rintro e w1 ⟨rfl,hk⟩;have I9:=yN (HV.o.kept hk);have HK:=yN hk;go_wp2_with fail;refine (aY2 i w1 I9.o (by omega)).mono ?_;rintro e w2 ⟨rfl,rfl⟩;rw [decide_eq_true hi];have hlen:=fun ty=>I9.o.b.len underlying186 ty;have hlt:(nb:Int)<256:=by omega
 obtain⟨w3,hrun,hv,hsm,_⟩:=I9.o.aLF hz hi (by rw [hb];simpa using aO);have HX:=yN (yd hv ((Sm.kept HK.o).trans hsm));go_wp2_with fail;go_ret;refine⟨rfl,?_,HX.o.2⟩;have:=HX.o.1;rw [hb] at this;exact this
theorem aTG (name:Key) (i:Nat) (w:World) (h:VR K V n nb par tm br w) (hs:DO name) (hb:br name=yO) (hi:i≤n) (aO:nb+1≤2) :
  Calls yM 98 #[yB (yP ⟨V.vb,0,yO⟩),yA name,yE yI i] w (aJX K V n nb par tm br name i w):=by
 have HA:=yN (aY3 name i w h hs hb hi aO);have c8:=ch 8 h.c;go_enter func98,ntmps98;go_wp2_with fail;refine HA.o.mono ?_;rintro e w2 ⟨rfl,hx⟩;have HX:=yN hx;go_wp2_with fail;go_ret;exact⟨rfl,HX.o⟩
end
end Go.Proofs.YtcldomgdkhenpaaGreat
