/- Lemmas. -/
import Derived.Test.YtcldomgdkhenpaaGreatJ24
import Derived.Test.YtcldomgdkhenpaaGreatJ25
import Derived.Laws.StructEq
import Derived.Laws.IdiomStrings
set_option linter.unusedVariables false
set_option maxRecDepth 1000000
set_option maxHeartbeats 40000000
open Go.Proofs.Tryz
open Go.Proofs.Tryz renaming prog → yM
open Go.Value renaming string → yA,pointer → yB,slice → yC,bool → yD,int → yE,agg → yF
open Go.IntKind renaming i64 → yH,u32 → yI,u64 → yJ
open Go.Obj renaming cells → yL
open Option renaming none → yO,some → yP
open Go.Lib renaming hid → yN
open And renaming intro → yd
open Array renaming getElem?_eq_some_iff → yo
open ByteArray renaming empty → yj
open Go.RowKit.Below renaming heap_setCell → yl,refl → yk
open Go.World renaming cell?_of_block → zn
open Nat renaming le_of_eq → yh,le_refl → ye,zero_le → yg
open Go.RowKit
namespace Go.Proofs.YtcldomgdkhenpaaGreat
section
open Sip
attribute [local irreducible] look
def Kn.nr:Kn→Int
 | .champ ..=>0
 | .radix=>1
def Kn.hs:Kn→Value
 | .champ k0 k1 mk=>hv k0 k1 mk
 | .radix=>yF #[yE yJ 0,yE yJ 0,yE yJ 0]
theorem aYX (K:Kn) (b:Nat) (key:Key) (f:Mp) (w:World) (h:K.is w b f) (hk:key.size≤1000) (hf:aM f 1000):Calls yM 115 #[K.tv b,yA key] w fun e w'=>e = .returned (.tuple #[yA ((f key).getD yj),yD (f key).isSome])∧Kept w w':=by
 cases K with
 | champ k0 k1 mk=>exact aS6 k0 k1 mk b key f w (yN ⟨h,hk,hf⟩)
 | radix=>exact aS7 b key f w (yN h)
theorem aHN (K:Kn) (b:Nat) (p:Pr) (f:Mp) (w:World) (h:K.is w b f) (h1:p.1.size≤256) (h2:p.2.size≤4096) (hf:aM f 1000):Calls yM 104 #[K.tv b,yB yO,yF #[yA p.1,yA p.2]] w (YD K (upd f p.1 (yP p.2)) w):=by
 cases K with
 | champ k0 k1 mk=>exact aS8 k0 k1 mk b p f w (yN ⟨h,h1,h2,hf⟩)
 | radix=>exact aS9 b p f w (yN ⟨h,h1,h2,hf⟩)
theorem aES (K:Kn) (b:Nat) (key:Key) (f:Mp) (w:World) (h:K.is w b f) (h1:key.size≤256) (hf:aM f 1000):Calls yM 106 #[K.tv b,yB yO,yA key] w (V5 K b (upd f key yO) w):=by
 cases K with
 | champ k0 k1 mk=>exact aQD k0 k1 mk b key f w (yN ⟨h,h1,hf⟩)
 | radix=>exact aQE b key f w (yN ⟨h,h1,hf⟩)
theorem aYY (K:Kn) (b c:Nat) (w:World):Calls yM 183 #[K.tv b,K.tv c] w fun e w'=>e = .returned (yD true)∧Kept w w':=by
 cases K with
 | champ k0 k1 mk=>exact aFF k0 k1 mk b c w
 | radix=>exact aFG b c w
theorem a1L:nu 0=0:=by unfold nu;rfl
def KX (K:Kn) (l:List Pr) (w:World) (e:Ending) (w':World):Prop:=∃ b s,e = .returned (.tuple #[K.tv b,yE yH 0])∧iI l s∧K.is w' b (look s)∧Kept w w'
theorem aJV {w:World} {v:Value} {l:List Pr} (h:Rd w v l.length (aK l)) {i:Nat} {p:Pr} (hp:l[i]?=yP p):∃ g off cap,v=yC (yP ⟨g,off,yO⟩) l.length cap∧i<l.length∧l.length≤cap∧cap≤maxLen∧w.cell? ⟨g,off+i*2,yO⟩=yP (yA p.1)∧w.cell? ⟨g,off+i*2+1,yO⟩=yP (yA p.2):=by
 have hi:=(List.getElem?_eq_some_iff.1 hp).1;obtain⟨e0,e1⟩:=JT hp;rcases h with ⟨_,_,_,_,h,_⟩ | ⟨g,off,cap,rfl,h1,h2,_,hc⟩
 ·omega
 refine⟨g,off,cap,rfl,hi,h1,h2,?_,?_⟩;·rw [Nat.mul_comm];exact hc _ _ e0
 rw [Nat.mul_comm,Nat.add_assoc];exact hc _ _ e1
theorem aRQ (k0 k1 mk:UInt64) (v:Value) (l:List Pr) (w:World) (h:Rd w v l.length (aK l)) (hl:l.length<20) (hz:∀ p∈l,p.1.size≤256∧p.2.size≤4096):Calls yM 167 #[yE yH 0,yF #[yE yJ (nu k0),yE yJ (nu k1),yE yJ (nu mk)],v] w (KX (.champ k0 k1 mk) l w):=by
 obtain⟨hA,hB,hk⟩:=dF w (yL #[yE yJ (nu k0),yE yJ (nu k1),yE yJ (nu mk)] 26) (yL #[yE yH 0,yE yJ 0,yE yJ 0,yE yJ 0,yB yO,yB yO] 179);have c0:=ch 0 hA;have c1:=ch 1 hA;have c2:=ch 2 hA;have HA:=yN (yd hA (yd hB hk));have HR:=yN (h.kept hk);have HZ:=yN hz;obtain⟨av,cv,rfl⟩:=h.shape;clear hA hB hk h hz;go_enter func167,ntmps167;go_wp2_with fail;generalize (w.alloc _).alloc _=w1 at *;obtain⟨hb,gM⟩:∃ hb,hb=w.heap.size:=⟨_,rfl⟩;rw [← gM] at HA c0 c1 c2 ⊢;have HW:=yN gM;clear gM;refine (aFD k0 k1 mk w1).mono ?_;rintro e w2 ⟨b0,rfl,_,hk2⟩;have aA:=aZ w2 (yL #[yE yH 0,yE yJ (nu k0),yE yJ (nu k1),yE yJ (nu mk),yB (yP ⟨b0,0,yO⟩),yB yO] 179);have mM:=yN (aB hk2 aA);unfold Kn.tv;clear aA hk2 c0 c1 c2;go_wp2_with fail;generalize w2.alloc _=w3 at *
 go_loopg [25] l.length (fun kx s25 wr=>∃ j:Nat,s25=yE yH j∧j≤l.length∧l.length-j≤kx∧Hid (Kept w1 wr))
 case atStart=>exact⟨0,rfl,yg _,ye _,mM⟩
 clear mM;obtain⟨j,rfl,hj,hm,HK⟩:=hrel;by_cases hlt:j<l.length
 ·have cD:(j:Int)<(l.length:Int):=by omega
  obtain⟨p,hp⟩:∃ p,l[j]?=yP p:=⟨l[j],List.getElem?_eq_getElem hlt⟩;have AA:=HZ.o p (List.mem_of_getElem? hp);obtain⟨g,off,cap,he,_,hc1,hc2,e0,e1⟩:=aJV HR.o hp;cases he;have d0:=HK.o.cell e0;have d1:=HK.o.cell e1;obtain⟨aA,hb⟩:=aW wr (yL #[yA p.1,yA p.2] 52);have x0:=ch 0 hb;have x1:=ch 1 hb;have cA:=yN (aB HK.o aA);have HP:=yN AA;clear e0 e1 aA hb hp AA;go_wp2_with fail;generalize wr.alloc _=w4 at *;refine (F0 p.1 p.2 w4 HP.o.1 HP.o.2).mono ?_;rintro e w' ⟨rfl,rfl⟩;go_wp2_with fail;go_roundg (l.length-(j+1));case measure=>omega
  exact⟨j+1,by congr 1,by omega,ye _,cA⟩
 have cD:¬ (j:Int)<(l.length:Int):=by omega
 go_wp2_with fail;have hA4:=(HK.o.block hb (yo.1 HA.o.1).1).trans HA.o.1;have f0:=ch 0 hA4;have f1:=ch 1 hA4;have f2:=ch 2 hA4;clear hA4;have aP:=yN (dY HK.o);refine jE (fun W:World=>W.cell? ⟨hb,0,yO⟩=yP (yE yJ (nu k0))∧W.cell? ⟨hb,1,yO⟩=yP (yE yJ (nu k1))∧W.cell? ⟨hb,2,yO⟩=yP (yE yJ (nu mk))) 7 ⟨f0,f1,f2⟩ fun HS=>?_;clear f0 f1 f2 HK;generalize wr.drew=w4 at *;refine tH 0 HS ?_;refine tH 1 HS ?_;refine tH 2 HS ?_;go_frame;refine oH 3 fun K hK=>?_;go_simp;refine (aVU k0 k1 mk l.length _ l w4 (HR.o.kept aP.o) rfl hl (fun p hp=>by have:=(HZ.o p hp).1;omega)).mono ?_;rintro e w5 ⟨c,s,rfl,hs,dK,hk⟩;have aF:=yN (aD (aD bL) hk HS.o);have D4:=yN (yd hs (yd dK (aB aP.o hk)));refine hK _ _ aF.o ?_;clear hK K HS hk hs dK aP;have HS:=aF;clear aF;refine oH 4 fun K hK=>?_;go_simp;refine (aQP k0 k1 mk c w5).mono ?_;rintro e w6 ⟨rfl,hk⟩;have aF:=yN (aD (aD bL) hk HS.o);have kA:Kept w1 w6:=aB D4.o.2.2 hk;have EY:=(kA.block (hb+1) (yo.1 HA.o.2.1).1).trans HA.o.2.1;have eC:Hid (iI l s∧Kn.is (.champ k0 k1 mk) w6 c (look s)∧Kept w w6∧w6.heap[hb+1]?=_):=yN ⟨D4.o.1,CT.kept D4.o.2.1 hk,aB HA.o.2.2 kA,EY⟩;clear kA EY D4;unfold Kn.tv;refine hK _ _ aF.o ?_;clear hK K HS hk;have HS:=aF;clear aF;obtain⟨rB,rF,rG,rH,rI,rJ,rK,rL,rM,rN,rO,rP,zH,zS,zO,zB⟩:=gN w6 (hb+1) _ (yE yH 0) (yE yJ 0) (yE yJ 0) (yE yJ 0) (yB yO) (yB yO) (yE yH 0) (yE yJ (nu k0)) (yE yJ (nu k1)) (yE yJ (nu mk)) (yB (yP ⟨c,0,yO⟩)) (yB yO) eC.o.2.2.2;have jJ:=yN (yd zH (yd zO zB));clear zH zS zO zB;have kY:∀ W7:World,(∀ i,i≠hb+1→W7.heap[i]?=w6.heap[i]?)→(fun W:World=>W.cell? ⟨hb,0,yO⟩=yP (yE yJ (nu k0))∧W.cell? ⟨hb,1,yO⟩=yP (yE yJ (nu k1))∧W.cell? ⟨hb,2,yO⟩=yP (yE yJ (nu mk))) W7:=fun W7 h=>⟨(zn (h hb (by omega))).trans HS.o.1,(zn (h hb (by omega))).trans HS.o.2.1,(zn (h hb (by omega))).trans HS.o.2.2⟩;have dQ:=yN kY;clear kY;refine oH 5 fun K hK=>?_;go_simp;refine hK _ _ (dQ.o _ jJ.o.2.1) ?_;clear hK K;refine oH 6 fun K hK=>?_;go_simp;refine hK _ _ (dQ.o _ jJ.o.2.1) ?_;clear hK K;refine dA ?_;go_wp2;refine bodyPost_ret (fK rfl rfl jJ.o.1 underlying179 rfl (by kernel_rfl)) rfl ?_;have hw:=HW.o;exact⟨c,s,rfl,eC.o.1,eC.o.2.1.turn (eJ eC.o.2.2.2 rfl jJ.o.2.1),jJ.o.2.2 _ _ eC.o.2.2.1 (by omega)⟩
theorem aRR (v:Value) (l:List Pr) (w:World) (h:Rd w v l.length (aK l)) (hl:l.length<20) (hz:∀ p∈l,p.1.size≤256∧p.2.size≤4096):Calls yM 167 #[yE yH 1,yF #[yE yJ 0,yE yJ 0,yE yJ 0],v] w (KX .radix l w):=by
 obtain⟨hA,hB,hk⟩:=dF w (yL #[yE yJ 0,yE yJ 0,yE yJ 0] 26) (yL #[yE yH 0,yE yJ 0,yE yJ 0,yE yJ 0,yB yO,yB yO] 179);have c0:=ch 0 hA;have c1:=ch 1 hA;have c2:=ch 2 hA;have HA:=yN (yd hA (yd hB hk));have HR:=yN (h.kept hk);have HZ:=yN hz;obtain⟨av,cv,rfl⟩:=h.shape;clear hA hB hk h hz;go_enter func167,ntmps167;go_wp2_with fail;generalize (w.alloc _).alloc _=w1 at *;obtain⟨hb,gM⟩:∃ hb,hb=w.heap.size:=⟨_,rfl⟩;rw [← gM] at HA c0 c1 c2 ⊢;have HW:=yN gM;clear gM;refine (Calls.mono (by have h:=aFE 0 0 0 w1;rw [a1L] at h;exact h) fun e w' h=>h).mono ?_;rintro e w2 ⟨b0,rfl,_,hk2⟩;have aA:=aZ w2 (yL #[yE yH 1,yE yJ 0,yE yJ 0,yE yJ 0,yB yO,yB (yP ⟨b0,0,yO⟩)] 179);have mM:=yN (aB hk2 aA);unfold Kn.tv;clear aA hk2 c0 c1 c2;go_wp2_with fail;generalize w2.alloc _=w3 at *
 go_loopg [25] l.length (fun kx s25 wr=>∃ j:Nat,s25=yE yH j∧j≤l.length∧l.length-j≤kx∧Hid (Kept w1 wr))
 case atStart=>exact⟨0,rfl,yg _,ye _,mM⟩
 clear mM;obtain⟨j,rfl,hj,hm,HK⟩:=hrel;by_cases hlt:j<l.length
 ·have cD:(j:Int)<(l.length:Int):=by omega
  obtain⟨p,hp⟩:∃ p,l[j]?=yP p:=⟨l[j],List.getElem?_eq_getElem hlt⟩;have AA:=HZ.o p (List.mem_of_getElem? hp);obtain⟨g,off,cap,he,_,hc1,hc2,e0,e1⟩:=aJV HR.o hp;cases he;have d0:=HK.o.cell e0;have d1:=HK.o.cell e1;obtain⟨aA,hb⟩:=aW wr (yL #[yA p.1,yA p.2] 52);have x0:=ch 0 hb;have x1:=ch 1 hb;have cA:=yN (aB HK.o aA);have HP:=yN AA;clear e0 e1 aA hb hp AA;go_wp2_with fail;generalize wr.alloc _=w4 at *;refine (F0 p.1 p.2 w4 HP.o.1 HP.o.2).mono ?_;rintro e w' ⟨rfl,rfl⟩;go_wp2_with fail;go_roundg (l.length-(j+1));case measure=>omega
  exact⟨j+1,by congr 1,by omega,ye _,cA⟩
 have cD:¬ (j:Int)<(l.length:Int):=by omega
 go_wp2_with fail;refine (aU4 l.length _ l wr (HR.o.kept HK.o) rfl (by omega) (fun p hp=>by have:=(HZ.o p hp).1;omega)).mono ?_;rintro e w5 ⟨c,s,rfl,hs,fM,bQ⟩;have D4:=yN (yd hs (yd fM (aB HK.o bQ)));clear hs fM bQ;go_wp2_with fail;refine (aQQ c w5).mono ?_;rintro e w6 ⟨rfl,kA⟩;have hk:Kept w1 w6:=aB D4.o.2.2 kA;have EY:=(hk.block (hb+1) (yo.1 HA.o.2.1).1).trans HA.o.2.1;have eC:Hid (iI l s∧Kn.is .radix w6 c (look s)∧Kept w w6∧w6.heap[hb+1]?=_):=yN ⟨D4.o.1,RR.kept D4.o.2.1 kA,aB HA.o.2.2 hk,EY⟩;clear hk kA EY;unfold Kn.tv;obtain⟨rB,rF,rG,rH,rI,rJ,rK,rL,rM,rN,rO,rP,zH,zS,zO,zB⟩:=gN w6 (hb+1) _ (yE yH 0) (yE yJ 0) (yE yJ 0) (yE yJ 0) (yB yO) (yB yO) (yE yH 1) (yE yJ 0) (yE yJ 0) (yE yJ 0) (yB yO) (yB (yP ⟨c,0,yO⟩)) eC.o.2.2.2;have jJ:=yN (yd zH (yd zO zB));clear zH zS zO zB;go_wp2_with fail;refine bodyPost_ret (fK rfl rfl jJ.o.1 underlying179 rfl (by kernel_rfl)) rfl ?_;have hw:=HW.o;exact⟨c,s,rfl,eC.o.1,eC.o.2.1.turn (eJ eC.o.2.2.2 rfl jJ.o.2.1),jJ.o.2.2 _ _ eC.o.2.2.1 (by omega)⟩
theorem aRS (k0 k1 mk:UInt64) (b:Nat) (v:Value) (l:List Pr) (w:World) (h:Rd w v l.length (aK l)) (hl:l.length<20) (hz:∀ p∈l,p.1.size≤256∧p.2.size≤4096):Calls yM 108 #[yF #[yE yH 0,yE yJ (nu k0),yE yJ (nu k1),yE yJ (nu mk),yB (yP ⟨b,0,yO⟩),yB yO],v] w (KX (.champ k0 k1 mk) l w):=by
 obtain⟨hA,hB,hk⟩:=dF w (yL #[yE yH 0,yE yJ (nu k0),yE yJ (nu k1),yE yJ (nu mk),yB (yP ⟨b,0,yO⟩),yB yO] 179) (yL #[yE yH 0,yE yJ 0,yE yJ 0,yE yJ 0,yB yO,yB yO] 179);have HA:=yN (yd hA (yd hB hk));have HR:=yN (h.kept hk);have HZ:=yN hz;clear hA hB hk h hz;go_enter func108,ntmps108;go_wp2_with fail;generalize (w.alloc _).alloc _=w1 at *;obtain⟨hb,gM⟩:∃ hb,hb=w.heap.size:=⟨_,rfl⟩;rw [← gM] at HA ⊢;have HW:=yN gM;clear gM;have f0:=ch 0 HA.o.1;have f1:=ch 1 HA.o.1;have f2:=ch 2 HA.o.1;have f3:=ch 3 HA.o.1;have f4:=ch 4 HA.o.1;have f5:=ch 5 HA.o.1;have aP:=yN (gB w1);refine jE (fun W:World=>W.cell? ⟨hb,0,yO⟩=yP (yE yH 0)∧W.cell? ⟨hb,1,yO⟩=yP (yE yJ (nu k0))∧W.cell? ⟨hb,2,yO⟩=yP (yE yJ (nu k1))∧W.cell? ⟨hb,3,yO⟩=yP (yE yJ (nu mk))∧W.cell? ⟨hb,4,yO⟩=yP (yB (yP ⟨b,0,yO⟩))∧W.cell? ⟨hb,5,yO⟩=yP (yB yO)) 10 ⟨f0,f1,f2,f3,f4,f5⟩ fun HS=>?_;clear f0 f1 f2 f3 f4 f5;generalize w1.drew=w2 at *;refine tH 0 HS ?_;refine tH 2 HS ?_;refine tH 4 HS ?_;go_frame;refine oH 1 fun K hK=>?_;go_simp;refine (aFB k0 k1 mk b w2).mono ?_;rintro e w3 ⟨rfl,hk⟩;have aF:=yN (aD (aD (aD (aD (aD bL)))) hk HS.o);have aL:=yN (aB aP.o hk);refine hK _ _ aF.o ?_;clear hK K HS hk aP;have HS:=aF;clear aF;refine oH 3 fun K hK=>?_;go_simp;refine (aD9 k0 k1 mk b w3).mono ?_;rintro e w4 ⟨rfl,hk⟩;have aF:=yN (aD (aD (aD (aD (aD bL)))) hk HS.o);have aR:=yN (aB aL.o hk);unfold hv;refine hK _ _ aF.o ?_;clear hK K HS hk aL;have HS:=aF;clear aF;refine oH 5 fun K hK=>?_;go_simp;refine (aRQ k0 k1 mk v l w4 (HR.o.kept aR.o) hl HZ.o).mono ?_;rintro e w5 ⟨c,s,rfl,hs,dK,hk⟩;have aF:=yN (aD (aD (aD (aD (aD bL)))) hk HS.o);have bQ:Kept w1 w5:=aB aR.o hk;have hB5:=(bQ.block (hb+1) (yo.1 HA.o.2.1).1).trans HA.o.2.1;have eC:Hid (iI l s∧Kn.is (.champ k0 k1 mk) w5 c (look s)∧Kept w w5∧w5.heap[hb+1]?=_):=yN ⟨hs,dK,aB HA.o.2.2 bQ,hB5⟩;clear bQ hB5;unfold Kn.tv;refine hK _ _ aF.o ?_;clear hK K HS hk hs dK aR;have HS:=aF;clear aF;refine tH 6 HS ?_;refine tH 7 HS ?_;go_frame;obtain⟨rB,rF,rG,rH,rI,rJ,rK,rL,rM,rN,rO,rP,zH,zS,zO,zB⟩:=gN w5 (hb+1) _ (yE yH 0) (yE yJ 0) (yE yJ 0) (yE yJ 0) (yB yO) (yB yO) (yE yH 0) (yE yJ (nu k0)) (yE yJ (nu k1)) (yE yJ (nu mk)) (yB (yP ⟨c,0,yO⟩)) (yB yO) eC.o.2.2.2;have jJ:=yN (yd zH (yd zO zB));clear zH zS zO zB;have kY:∀ W7:World,(∀ i,i≠hb+1→W7.heap[i]?=w5.heap[i]?)→(fun W:World=>W.cell? ⟨hb,0,yO⟩=yP (yE yH 0)∧W.cell? ⟨hb,1,yO⟩=yP (yE yJ (nu k0))∧W.cell? ⟨hb,2,yO⟩=yP (yE yJ (nu k1))∧W.cell? ⟨hb,3,yO⟩=yP (yE yJ (nu mk))∧W.cell? ⟨hb,4,yO⟩=yP (yB (yP ⟨b,0,yO⟩))∧W.cell? ⟨hb,5,yO⟩=yP (yB yO)) W7:=fun W7 h=>⟨(zn (h hb (by omega))).trans HS.o.1,(zn (h hb (by omega))).trans HS.o.2.1,(zn (h hb (by omega))).trans HS.o.2.2.1,(zn (h hb (by omega))).trans HS.o.2.2.2.1,(zn (h hb (by omega))).trans HS.o.2.2.2.2.1,(zn (h hb (by omega))).trans HS.o.2.2.2.2.2⟩;have dQ:=yN kY;clear kY;refine oH 8 fun K hK=>?_;go_simp;refine hK _ _ (dQ.o _ jJ.o.2.1) ?_;clear hK K;refine oH 9 fun K hK=>?_;go_simp;refine hK _ _ (dQ.o _ jJ.o.2.1) ?_;clear hK K;refine dA ?_;go_wp2;refine bodyPost_ret (fK rfl rfl jJ.o.1 underlying179 rfl (by kernel_rfl)) rfl ?_;have hw:=HW.o;exact⟨c,s,rfl,eC.o.1,eC.o.2.1.turn (eJ eC.o.2.2.2 rfl jJ.o.2.1),jJ.o.2.2 _ _ eC.o.2.2.1 (by omega)⟩
theorem aRT (b:Nat) (v:Value) (l:List Pr) (w:World) (h:Rd w v l.length (aK l)) (hl:l.length<20) (hz:∀ p∈l,p.1.size≤256∧p.2.size≤4096):Calls yM 108 #[yF #[yE yH 1,yE yJ 0,yE yJ 0,yE yJ 0,yB yO,yB (yP ⟨b,0,yO⟩)],v] w (KX .radix l w):=by
 obtain⟨hA,hB,hk⟩:=dF w (yL #[yE yH 1,yE yJ 0,yE yJ 0,yE yJ 0,yB yO,yB (yP ⟨b,0,yO⟩)] 179) (yL #[yE yH 0,yE yJ 0,yE yJ 0,yE yJ 0,yB yO,yB yO] 179);have HA:=yN (yd hA (yd hB hk));have HR:=yN (h.kept hk);have HZ:=yN hz;clear hA hB hk h hz;go_enter func108,ntmps108;go_wp2_with fail;generalize (w.alloc _).alloc _=w1 at *;obtain⟨hb,gM⟩:∃ hb,hb=w.heap.size:=⟨_,rfl⟩;rw [← gM] at HA ⊢;have HW:=yN gM;clear gM;have f0:=ch 0 HA.o.1;have f1:=ch 1 HA.o.1;have f2:=ch 2 HA.o.1;have f3:=ch 3 HA.o.1;have f4:=ch 4 HA.o.1;have f5:=ch 5 HA.o.1;have aP:=yN (gB w1);refine jE (fun W:World=>W.cell? ⟨hb,0,yO⟩=yP (yE yH 1)∧W.cell? ⟨hb,1,yO⟩=yP (yE yJ 0)∧W.cell? ⟨hb,2,yO⟩=yP (yE yJ 0)∧W.cell? ⟨hb,3,yO⟩=yP (yE yJ 0)∧W.cell? ⟨hb,4,yO⟩=yP (yB yO)∧W.cell? ⟨hb,5,yO⟩=yP (yB (yP ⟨b,0,yO⟩))) 10 ⟨f0,f1,f2,f3,f4,f5⟩ fun HS=>?_;clear f0 f1 f2 f3 f4 f5;generalize w1.drew=w2 at *;refine tH 0 HS ?_;refine tH 2 HS ?_;refine tH 4 HS ?_;go_frame;refine oH 1 fun K hK=>?_;go_simp;refine (aFC b w2).mono ?_;rintro e w3 ⟨rfl,hk⟩;have aF:=yN (aD (aD (aD (aD (aD bL)))) hk HS.o);have aL:=yN (aB aP.o hk);refine hK _ _ aF.o ?_;clear hK K HS hk aP;have HS:=aF;clear aF;refine oH 3 fun K hK=>?_;go_simp;refine (aEA b w3).mono ?_;rintro e w4 ⟨rfl,hk⟩;have aF:=yN (aD (aD (aD (aD (aD bL)))) hk HS.o);have aR:=yN (aB aL.o hk);refine hK _ _ aF.o ?_;clear hK K HS hk aL;have HS:=aF;clear aF;refine oH 5 fun K hK=>?_;go_simp;refine (aRR v l w4 (HR.o.kept aR.o) hl HZ.o).mono ?_;rintro e w5 ⟨c,s,rfl,hs,dK,hk⟩;have aF:=yN (aD (aD (aD (aD (aD bL)))) hk HS.o);have bQ:Kept w1 w5:=aB aR.o hk;have hB5:=(bQ.block (hb+1) (yo.1 HA.o.2.1).1).trans HA.o.2.1;have eC:Hid (iI l s∧Kn.is .radix w5 c (look s)∧Kept w w5∧w5.heap[hb+1]?=_):=yN ⟨hs,dK,aB HA.o.2.2 bQ,hB5⟩;clear bQ hB5;unfold Kn.tv;refine hK _ _ aF.o ?_;clear hK K HS hk hs dK aR;have HS:=aF;clear aF;refine tH 6 HS ?_;refine tH 7 HS ?_;go_frame;obtain⟨rB,rF,rG,rH,rI,rJ,rK,rL,rM,rN,rO,rP,zH,zS,zO,zB⟩:=gN w5 (hb+1) _ (yE yH 0) (yE yJ 0) (yE yJ 0) (yE yJ 0) (yB yO) (yB yO) (yE yH 1) (yE yJ 0) (yE yJ 0) (yE yJ 0) (yB yO) (yB (yP ⟨c,0,yO⟩)) eC.o.2.2.2;have jJ:=yN (yd zH (yd zO zB));clear zH zS zO zB;have kY:∀ W7:World,(∀ i,i≠hb+1→W7.heap[i]?=w5.heap[i]?)→(fun W:World=>W.cell? ⟨hb,0,yO⟩=yP (yE yH 1)∧W.cell? ⟨hb,1,yO⟩=yP (yE yJ 0)∧W.cell? ⟨hb,2,yO⟩=yP (yE yJ 0)∧W.cell? ⟨hb,3,yO⟩=yP (yE yJ 0)∧W.cell? ⟨hb,4,yO⟩=yP (yB yO)∧W.cell? ⟨hb,5,yO⟩=yP (yB (yP ⟨b,0,yO⟩))) W7:=fun W7 h=>⟨(zn (h hb (by omega))).trans HS.o.1,(zn (h hb (by omega))).trans HS.o.2.1,(zn (h hb (by omega))).trans HS.o.2.2.1,(zn (h hb (by omega))).trans HS.o.2.2.2.1,(zn (h hb (by omega))).trans HS.o.2.2.2.2.1,(zn (h hb (by omega))).trans HS.o.2.2.2.2.2⟩;have dQ:=yN kY;clear kY;refine oH 8 fun K hK=>?_;go_simp;refine hK _ _ (dQ.o _ jJ.o.2.1) ?_;clear hK K;refine oH 9 fun K hK=>?_;go_simp;refine hK _ _ (dQ.o _ jJ.o.2.1) ?_;clear hK K;refine dA ?_;go_wp2;refine bodyPost_ret (fK rfl rfl jJ.o.1 underlying179 rfl (by kernel_rfl)) rfl ?_;have hw:=HW.o;exact⟨c,s,rfl,eC.o.1,eC.o.2.1.turn (eJ eC.o.2.2.2 rfl jJ.o.2.1),jJ.o.2.2 _ _ eC.o.2.2.1 (by omega)⟩
theorem aVV (K:Kn) (b:Nat) (v:Value) (l:List Pr) (w:World) (h:Rd w v l.length (aK l)) (hl:l.length<20) (hz:∀ p∈l,p.1.size≤256∧p.2.size≤4096):Calls yM 108 #[K.tv b,v] w (KX K l w):=by
 cases K with
 | champ k0 k1 mk=>exact aRS k0 k1 mk b v l w h hl hz
 | radix=>exact aRT b v l w h hl hz
end
section
attribute [local irreducible] look
theorem gZ (w:World) (rb:Nat) (T:TypeId) (a0 a1 v0 v1:Value) (h:w.heap[rb]?=yP (yL #[a0,a1] T)):w.cell? ⟨rb,0,yO⟩=yP a0∧w.frozen? ⟨rb,0,yO⟩=false∧(w.setCell ⟨rb,0,yO⟩ v0).cell? ⟨rb,1,yO⟩=yP a1∧(w.setCell ⟨rb,0,yO⟩ v0).frozen? ⟨rb,1,yO⟩=false∧((w.setCell ⟨rb,0,yO⟩ v0).setCell ⟨rb,1,yO⟩ v1).heap[rb]?=yP (yL #[v0,v1] T)∧((w.setCell ⟨rb,0,yO⟩ v0).setCell ⟨rb,1,yO⟩ v1).heap.size=w.heap.size∧(∀ i,i≠rb→((w.setCell ⟨rb,0,yO⟩ v0).setCell ⟨rb,1,yO⟩ v1).heap[i]?=w.heap[i]?)∧∀ (w0:World) (B:Nat),Below B w0 w→B≤rb→Below B w0 ((w.setCell ⟨rb,0,yO⟩ v0).setCell ⟨rb,1,yO⟩ v1):=by
 have h0:(w.setCell ⟨rb,0,yO⟩ v0).heap[rb]?=yP (yL #[v0,a1] T):=heap_setCell h;have h1:((w.setCell ⟨rb,0,yO⟩ v0).setCell ⟨rb,1,yO⟩ v1).heap[rb]?=yP (yL #[v0,v1] T):=heap_setCell h0;refine⟨aG h rfl,aU h,aG h0 rfl,aU h0,h1,by simp only [World.setCell,Array.size_modify],fun i hi=>?_,fun w0 B hk hB=>?_⟩;·rw [yl _ _ _ _ (by simpa using hi),yl _ _ _ _ (by simpa using hi)]
 exact ((hk.setCell (show B≤(⟨rb,0,yO⟩:Addr).block from hB) _).setCell (show B≤(⟨rb,1,yO⟩:Addr).block from hB) _)
def j2 (o:Option Key):Value:=yF #[yA (ev o),yD o.isSome]
theorem aI9 {o t:Option Key} (h1:ev o=ev t) (h2:o.isSome=t.isSome):o=t:=by
 cases o <;> cases t <;> simp_all [ev]
theorem V7 (o t:Option Key) (w:World):(binOp .eql 71 (yF #[yA (ev o),yD o.isSome]) (yF #[yA (ev t),yD t.isSome])).run yM w = .ok (yD (decide (o=t))) w:=by
 have hS:yM.underlying 71=yP (.struct (yM.fieldsOf 71)):=by kernel_rfl
 have hp:yM.stoodInHeld 71=false:=by kernel_rfl
 rw [run_eql_struct,show (10000:Nat)=9999+1 from rfl,run_equalIn_agg w 9999 71 _ _ hS hp];simp only [Program.fieldsOf,underlying71];have hv:=qJ (ev o) (ev t);by_cases h1:ev o=ev t
 ·rw [decide_eq_true h1] at hv;by_cases h2:o.isSome=t.isSome
  ·have e:=aI9 h1 h2;subst e;go_simp
  have e:¬ o=t:=fun e=>h2 (by rw [e]);have h3:(o.isSome == t.isSome)=false:=by simpa using h2
  go_simp
 rw [decide_eq_false h1] at hv;have e:¬ o=t:=fun e=>h1 (by rw [e]);go_simp
theorem C7 (w:World) (a b c d:Obj):(((((w.alloc a).alloc b).alloc c).alloc d).heap[w.heap.size]?=yP a∧((((w.alloc a).alloc b).alloc c).alloc d).heap[w.heap.size+1]?=yP b∧((((w.alloc a).alloc b).alloc c).alloc d).heap[w.heap.size+1+1]?=yP c∧((((w.alloc a).alloc b).alloc c).alloc d).heap[w.heap.size+1+1+1]?=yP d)∧Kept w ((((w.alloc a).alloc b).alloc c).alloc d):=by
 obtain⟨h1,h2,h3,h4⟩:=GA w a b c;have aA:Kept (((w.alloc a).alloc b).alloc c) ((((w.alloc a).alloc b).alloc c).alloc d):=(yk _ _).alloc (ye _) _;have hn:=World.alloc_heap_new (((w.alloc a).alloc b).alloc c) d;simp only [World.size_alloc] at hn;exact⟨⟨(aA.block _ (yo.1 h1).1).trans h1,(aA.block _ (yo.1 h2).1).trans h2,(aA.block _ (yo.1 h3).1).trans h3,hn⟩,aB h4 aA⟩
theorem aHO (n:Nat) (hn:n<4) (w:World):Calls yM 172 #[yE yH n] w fun e w'=>∃ s,e = .returned (yA s)∧(ByteArray.toList s).isEmpty=false∧(s == ⟨#[]⟩)=false∧w=w':=by
 have h:n=0∨n=1∨n=2∨n=3:=by omega
 rcases h with rfl | rfl | rfl | rfl
 all_goals
  go_enter func172,ntmps172;go_wp2_with fail;go_ret;exact⟨_,rfl,by rw [ByteArray.toList_eq];rfl,by decide,rfl⟩
theorem Q5 (b o t:Option Key) (n:Nat) (hn:n<4) (w:World):Calls yM 241 #[j2 b,j2 o,j2 t,yE yH n] w fun e w'=>e = .returned (.tuple #[j2 (cO b o t n).1,yD (cO b o t n).2])∧Kept w w':=by
 obtain⟨⟨hb,ho,ht,hz⟩,hk⟩:=C7 w (yL #[yA (ev b),yD b.isSome] 71) (yL #[yA (ev o),yD o.isSome] 71) (yL #[yA (ev t),yD t.isSome] 71) (yL #[yA ⟨#[]⟩,yD false] 71);have b0:=ch 0 hb;have b1:=ch 1 hb;have o0:=ch 0 ho;have o1:=ch 1 ho;have t0:=ch 0 ht;have t1:=ch 1 ht;have e1:=V7 o t;have e2:=V7 t b;have e3:=V7 o b;have HK:=yN hk;have HZ:=yN hz;obtain⟨res,hres⟩:∃ res,res=cO b o t n:=⟨_,rfl⟩;rw [← hres];have HR:=yN hres;unfold j2;have B7:n=0∨n=3∨n=1∨n=2:=by omega
 have hc:decide (o=t)=true∧res=(o,true)∨(decide (o=t)=false∧decide (t=b)=true∧res=(o,true))∨(decide (o=t)=false∧decide (t=b)=false∧decide (o=b)=true∧res=(t,true))∨(decide (o=t)=false∧decide (t=b)=false∧decide (o=b)=false∧(n=0∧res=(b,false)∨n=3∧res=(b,false)∨n=1∧res=(o,false)∨n=2∧res=(t,false))):=by
  rw [HR.o];unfold cO;by_cases c1:o=t;·exact .inl ⟨decide_eq_true c1,if_pos (.inl c1)⟩
  by_cases c2:t=b;·exact .inr (.inl ⟨decide_eq_false c1,decide_eq_true c2,if_pos (.inr c2)⟩)
  by_cases c3:o=b;·exact .inr (.inr (.inl ⟨decide_eq_false c1,decide_eq_false c2,decide_eq_true c3,by rw [if_neg (fun h=>h.elim c1 c2),if_pos c3]⟩))
  refine .inr (.inr (.inr ⟨decide_eq_false c1,decide_eq_false c2,decide_eq_false c3,?_⟩));rw [if_neg (fun h=>h.elim c1 c2),if_neg c3];rcases B7 with rfl | rfl | rfl | rfl <;> simp
 rcases hc with ⟨c1,hr⟩ | ⟨c1,c2,hr⟩ | ⟨c1,c2,c3,hr⟩ | ⟨c1,c2,c3,hc⟩
 rotate_left 3;rcases hc with ⟨hm,hr⟩ | ⟨hm,hr⟩ | ⟨hm,hr⟩ | ⟨hm,hr⟩
 all_goals
  simp only [c1] at e1;try simp only [c2] at e2
  try simp only [c3] at e3
  try clear c2
  try clear c3
  try subst hm
  subst hr
 all_goals
  go_enter func241,ntmps241;go_wp2_with fail;refine bodyPost_ret (fK rfl rfl (C7 w _ _ _ _).1.2.2.2 underlying71 rfl (by kernel_rfl)) rfl ?_;exact⟨rfl,(C7 w _ _ _ _).2⟩
end
section
open Sip
attribute [local irreducible] look
def Kn.u0:Kn→Int
 | .champ k0 _ _=>nu k0
 | .radix=>0
def Kn.u1:Kn→Int
 | .champ _ k1 _=>nu k1
 | .radix=>0
def Kn.u2:Kn→Int
 | .champ _ _ mk=>nu mk
 | .radix=>0
def Kn.p4:Kn→Nat→Option Addr
 | .champ ..,b=>yP ⟨b,0,yO⟩
 | .radix,_=>yO
def Kn.p5:Kn→Nat→Option Addr
 | .champ ..,_=>yO
 | .radix,b=>yP ⟨b,0,yO⟩
def Kn.cs (K:Kn) (b:Nat):List Value:=[yE yH K.nr,yE yJ K.u0,yE yJ K.u1,yE yJ K.u2,yB (K.p4 b),yB (K.p5 b)]
theorem jA (K:Kn) (b:Nat):K.tv b=yF #[yE yH K.nr,yE yJ K.u0,yE yJ K.u1,yE yJ K.u2,yB (K.p4 b),yB (K.p5 b)]:=by cases K <;> rfl
theorem aHP (K:Kn) (b:Nat) (key:Key) (f:Mp) (w:World) (h:K.is w b f) (hk:key.size≤1000) (hf:aM f 1000):Calls yM 115 #[yF #[yE yH K.nr,yE yJ K.u0,yE yJ K.u1,yE yJ K.u2,yB (K.p4 b),yB (K.p5 b)],yA key] w fun e w'=>e = .returned (.tuple #[yA (ev (f key)),yD (f key).isSome])∧Kept w w':=by
 rw [← jA];exact aYX K b key f w h hk hf
def aJW (K:Kn) (f:Mp) (w:World) (e:Ending) (w':World):Prop:=∃ c x,e = .returned (.tuple #[yF #[yE yH K.nr,yE yJ K.u0,yE yJ K.u1,yE yJ K.u2,yB (K.p4 c),yB (K.p5 c)],yE yH x])∧K.is w' c f∧Kept w w'
theorem aY0 (K:Kn) (b:Nat) (p:Pr) (f:Mp) (w:World) (h:K.is w b f) (h1:p.1.size≤256) (h2:p.2.size≤4096) (hf:aM f 1000):Calls yM 104 #[yF #[yE yH K.nr,yE yJ K.u0,yE yJ K.u1,yE yJ K.u2,yB (K.p4 b),yB (K.p5 b)],yB yO,yF #[yA p.1,yA p.2]] w (aJW K (upd f p.1 (yP p.2)) w):=by
 rw [← jA];refine (aHN K b p f w h h1 h2 hf).mono ?_;rintro e w' ⟨c,rfl,h⟩;exact⟨c,0,by rw [jA],h⟩
theorem aRU (K:Kn) (b:Nat) (key:Key) (f:Mp) (w:World) (h:K.is w b f) (h1:key.size≤256) (hf:aM f 1000):Calls yM 106 #[yF #[yE yH K.nr,yE yJ K.u0,yE yJ K.u1,yE yJ K.u2,yB (K.p4 b),yB (K.p5 b)],yB yO,yA key] w (aJW K (upd f key yO) w):=by
 rw [← jA];refine (aES K b key f w h h1 hf).mono ?_;rintro e w' ⟨c,a,he,hr⟩;rcases he with ⟨_,rfl⟩ | ⟨_,hc,rfl⟩
 ·exact⟨c,0,by rw [jA],hr⟩
 exact⟨c,4,by rw [hc,jA],hr⟩
theorem V8 (K:Kn) (b c:Nat) (w:World):Calls yM 183 #[yF #[yE yH K.nr,yE yJ K.u0,yE yJ K.u1,yE yJ K.u2,yB (K.p4 b),yB (K.p5 b)],yF #[yE yH K.nr,yE yJ K.u0,yE yJ K.u1,yE yJ K.u2,yB (K.p4 c),yB (K.p5 c)]] w fun e w'=>e = .returned (yD true)∧Kept w w':=by
 rw [← jA,← jA];exact aYY K b c w
theorem a1M (K:Kn) (b:Nat) (key:Key) (f:Mp) (w:World) (h:K.is w b f) (hk:key.size≤1000) (hf:aM f 1000):Calls yM 240 #[yF #[yE yH K.nr,yE yJ K.u0,yE yJ K.u1,yE yJ K.u2,yB (K.p4 b),yB (K.p5 b)],yA key] w fun e w'=>e = .returned (j2 (f key))∧Kept w w':=by
 obtain⟨hA,hB,cH⟩:=dF w (yL #[yE yH K.nr,yE yJ K.u0,yE yJ K.u1,yE yJ K.u2,yB (K.p4 b),yB (K.p5 b)] 179) (yL #[yA ⟨#[]⟩,yD false] 71);have a0:=ch 0 hA;have a1:=ch 1 hA;have a2:=ch 2 hA;have a3:=ch 3 hA;have a4:=ch 4 hA;have a5:=ch 5 hA;have HB:=yN (yd hB cH);have HH:=yN (yd (h.kept cH) (yd hk hf));clear hA hB cH h hk hf;go_enter func240,ntmps240;go_wp2_with fail;generalize (w.alloc (yL #[yE yH K.nr,yE yJ K.u0,yE yJ K.u1,yE yJ K.u2,yB (K.p4 b),yB (K.p5 b)] 179)).alloc (yL #[yA ⟨#[]⟩,yD false] 71)=w1 at *;refine (aHP K b key f w1 HH.o.1 HH.o.2.1 HH.o.2.2).mono ?_;rintro e w2 ⟨rfl,hk2⟩;have hb2:=(hk2.block _ (yo.1 HB.o.1).1).trans HB.o.1;obtain⟨s1,s2,s3,s4,s5,_,_,s8⟩:=gZ w2 (w.heap.size+1) 71 _ _ (yA (ev (f key))) (yD (f key).isSome) hb2;have HS:=yN (yd s5 (s8 w w.heap.size (aB HB.o.2 hk2) (by omega)));clear s5 s8 hb2 hk2;go_wp2_with fail;refine bodyPost_ret (eQ rfl rfl HS.o.1 underlying71 rfl (by kernel_rfl)) rfl ?_;exact⟨rfl,HS.o.2⟩
def aLD (K:Kn) (f:Mp) (w:World) (e:Ending) (w':World):Prop:=∃ c,e = .returned (yF #[yE yH K.nr,yE yJ K.u0,yE yJ K.u1,yE yJ K.u2,yB (K.p4 c),yB (K.p5 c)])∧K.is w' c f∧Kept w w'
theorem a1N (K:Kn) (b:Nat) (key:Key) (o:Option Key) (f:Mp) (w:World) (h:K.is w b f) (hk:key.size≤256) (hv:(ev o).size≤4096) (hf:aM f 1000):Calls yM 242 #[yF #[yE yH K.nr,yE yJ K.u0,yE yJ K.u1,yE yJ K.u2,yB (K.p4 b),yB (K.p5 b)],yA key,j2 o] w (aLD K (upd f key o) w):=by
 obtain⟨hA,hB,hC,cH⟩:=GA w (yL #[yE yH K.nr,yE yJ K.u0,yE yJ K.u1,yE yJ K.u2,yB (K.p4 b),yB (K.p5 b)] 179) (yL #[yA (ev o),yD o.isSome] 71) (yL #[yE yH 0,yE yJ 0,yE yJ 0,yE yJ 0,yB yO,yB yO] 179);have a0:=ch 0 hA;have a1:=ch 1 hA;have a2:=ch 2 hA;have a3:=ch 3 hA;have a4:=ch 4 hA;have a5:=ch 5 hA;have b0:=ch 0 hB;have b1:=ch 1 hB;have HB:=yN (yd hA (yd hC cH));have HH:=yN (yd (h.kept cH) (yd hk (yd hv hf)));unfold j2;clear hA hB hC cH h hk hv hf;have ho:o=yO∨∃ v,o=yP v:=by cases o <;> simp
 rcases ho with rfl | ⟨v,rfl⟩
 ·simp only [Option.isSome_none] at b1 HB HH ⊢;go_enter func242,ntmps242;go_wp2_with fail;generalize ((w.alloc (yL #[yE yH K.nr,yE yJ K.u0,yE yJ K.u1,yE yJ K.u2,yB (K.p4 b),yB (K.p5 b)] 179)).alloc (yL #[yA (ev yO),yD false] 71)).alloc (yL #[yE yH 0,yE yJ 0,yE yJ 0,yE yJ 0,yB yO,yB yO] 179)=w1 at *;obtain⟨tb,mD⟩:∃ tb,tb=w.heap.size:=⟨_,rfl⟩;rw [← mD] at HB a0 a1 a2 a3 a4 a5 b0 b1 ⊢;have HW:=yN mD;clear mD;refine (aRU K b key f w1 HH.o.1 HH.o.2.1 HH.o.2.2.2).mono ?_;rintro e w2 ⟨c,x,rfl,hc,hk2⟩;have hb2:=(hk2.block _ (yo.1 HB.o.1).1).trans HB.o.1;have hc2:=(hk2.block _ (yo.1 HB.o.2.1).1).trans HB.o.2.1;obtain⟨s0,s1,s2,s3,s4,s5,s6,s7,s8,s9,cK,jN,h6,z6,o6,k6⟩:=gN w2 tb 179 _ _ _ _ _ _ (yE yH K.nr) (yE yJ K.u0) (yE yJ K.u1) (yE yJ K.u2) (yB (K.p4 c)) (yB (K.p5 c)) hb2;have HC:=yN (yd hc (yd h6 (yd ((o6 (tb+1+1) (by omega)).trans hc2) (k6 w w.heap.size (aB HB.o.2.2 hk2) (by rw [HW.o];exact ye _)))));clear a0 a1 a2 a3 a4 a5 b0 b1 h6 z6 k6 hc2 hk2 hc;iterate 18 (first | go_values | go_skip | go_guarded | go_step | go_upon | go_back | go_simp)
  have HT:Hid (D3 tb w2 ((((((w2.setCell ⟨tb,0,yO⟩ (yE yH K.nr)).setCell ⟨tb,1,yO⟩ (yE yJ K.u0)).setCell ⟨tb,2,yO⟩ (yE yJ K.u1)).setCell ⟨tb,3,yO⟩ (yE yJ K.u2)).setCell ⟨tb,4,yO⟩ (yB (K.p4 c))).setCell ⟨tb,5,yO⟩ (yB (K.p5 c)))):=yN (eJ hb2 rfl o6);generalize (((((w2.setCell ⟨tb,0,yO⟩ (yE yH K.nr)).setCell ⟨tb,1,yO⟩ (yE yJ K.u0)).setCell ⟨tb,2,yO⟩ (yE yJ K.u1)).setCell ⟨tb,3,yO⟩ (yE yJ K.u2)).setCell ⟨tb,4,yO⟩ (yB (K.p4 c))).setCell ⟨tb,5,yO⟩ (yB (K.p5 c))=w3 at *;have l0:=ch 0 HC.o.2.1;have l1:=ch 1 HC.o.2.1;have l2:=ch 2 HC.o.2.1;have l3:=ch 3 HC.o.2.1;have l4:=ch 4 HC.o.2.1;have l5:=ch 5 HC.o.2.1;obtain⟨r0,r1,r2,r3,r4,r5,r6,r7,r8,r9,r10,r11,h7,z7,o7,k7⟩:=gN w3 (tb+1+1) 179 _ _ _ _ _ _ (yE yH K.nr) (yE yJ K.u0) (yE yJ K.u1) (yE yJ K.u2) (yB (K.p4 c)) (yB (K.p5 c)) HC.o.2.2.1;have HD:=yN (yd h7 (yd o7 k7));clear h7 z7 o7 k7 s0 s1 s2 s3 s4 s5 s6 s7 s8 s9 cK jN;go_wp2_with fail;refine bodyPost_ret (eQ rfl rfl HD.o.1 underlying179 rfl (by kernel_rfl)) rfl ?_;exact⟨c,rfl,(HC.o.1.turn HT.o).turn (eJ HC.o.2.2.1 rfl HD.o.2.1),HD.o.2.2 w w.heap.size HC.o.2.2.2 (by rw [HW.o];omega)⟩
 simp only [Option.isSome_some] at b1 HB HH ⊢;go_enter func242,ntmps242;go_wp2_with fail;generalize ((w.alloc (yL #[yE yH K.nr,yE yJ K.u0,yE yJ K.u1,yE yJ K.u2,yB (K.p4 b),yB (K.p5 b)] 179)).alloc (yL #[yA (ev (yP v)),yD true] 71)).alloc (yL #[yE yH 0,yE yJ 0,yE yJ 0,yE yJ 0,yB yO,yB yO] 179)=w1 at *;obtain⟨tb,mD⟩:∃ tb,tb=w.heap.size:=⟨_,rfl⟩;rw [← mD] at HB a0 a1 a2 a3 a4 a5 b0 b1 ⊢;have HW:=yN mD;clear mD;refine (aY0 K b (key,v) f w1 HH.o.1 HH.o.2.1 HH.o.2.2.1 HH.o.2.2.2).mono ?_;rintro e w2 ⟨c,x,rfl,hc,hk2⟩;have hb2:=(hk2.block _ (yo.1 HB.o.1).1).trans HB.o.1;have hc2:=(hk2.block _ (yo.1 HB.o.2.1).1).trans HB.o.2.1;obtain⟨s0,s1,s2,s3,s4,s5,s6,s7,s8,s9,cK,jN,h6,z6,o6,k6⟩:=gN w2 tb 179 _ _ _ _ _ _ (yE yH K.nr) (yE yJ K.u0) (yE yJ K.u1) (yE yJ K.u2) (yB (K.p4 c)) (yB (K.p5 c)) hb2;have HC:=yN (yd hc (yd h6 (yd ((o6 (tb+1+1) (by omega)).trans hc2) (k6 w w.heap.size (aB HB.o.2.2 hk2) (by rw [HW.o];exact ye _)))));clear a0 a1 a2 a3 a4 a5 b0 b1 h6 z6 k6 hc2 hk2 hc;iterate 18 (first | go_values | go_skip | go_guarded | go_step | go_upon | go_back | go_simp)
 have HT:Hid (D3 tb w2 ((((((w2.setCell ⟨tb,0,yO⟩ (yE yH K.nr)).setCell ⟨tb,1,yO⟩ (yE yJ K.u0)).setCell ⟨tb,2,yO⟩ (yE yJ K.u1)).setCell ⟨tb,3,yO⟩ (yE yJ K.u2)).setCell ⟨tb,4,yO⟩ (yB (K.p4 c))).setCell ⟨tb,5,yO⟩ (yB (K.p5 c)))):=yN (eJ hb2 rfl o6);generalize (((((w2.setCell ⟨tb,0,yO⟩ (yE yH K.nr)).setCell ⟨tb,1,yO⟩ (yE yJ K.u0)).setCell ⟨tb,2,yO⟩ (yE yJ K.u1)).setCell ⟨tb,3,yO⟩ (yE yJ K.u2)).setCell ⟨tb,4,yO⟩ (yB (K.p4 c))).setCell ⟨tb,5,yO⟩ (yB (K.p5 c))=w3 at *;have l0:=ch 0 HC.o.2.1;have l1:=ch 1 HC.o.2.1;have l2:=ch 2 HC.o.2.1;have l3:=ch 3 HC.o.2.1;have l4:=ch 4 HC.o.2.1;have l5:=ch 5 HC.o.2.1;obtain⟨r0,r1,r2,r3,r4,r5,r6,r7,r8,r9,r10,r11,h7,z7,o7,k7⟩:=gN w3 (tb+1+1) 179 _ _ _ _ _ _ (yE yH K.nr) (yE yJ K.u0) (yE yJ K.u1) (yE yJ K.u2) (yB (K.p4 c)) (yB (K.p5 c)) HC.o.2.2.1;have HD:=yN (yd h7 (yd o7 k7));clear h7 z7 o7 k7 s0 s1 s2 s3 s4 s5 s6 s7 s8 s9 cK jN;go_wp2_with fail;refine bodyPost_ret (eQ rfl rfl HD.o.1 underlying179 rfl (by kernel_rfl)) rfl ?_;exact⟨c,rfl,(HC.o.1.turn HT.o).turn (eJ HC.o.2.2.1 rfl HD.o.2.1),HD.o.2.2 w w.heap.size HC.o.2.2.2 (by rw [HW.o];omega)⟩
end
section
open Sip
attribute [local irreducible] look
structure VI where
 vb:Nat
 gb:Nat
 pb:Nat
 tb:Nat
 bb:Nat
 tg:Nat
 eb:Nat
def VI.S (V:VI) (i:Nat):Prop:=i=V.gb∨i=V.pb∨i=V.tb∨i=V.bb
def oZ (K:Kn) (n:Nat) (tr:Nat→Nat) (i:Nat):Option Value:=if 1≤i∧i≤n then yP (K.tv (tr i)) else yO
def nM (br:Key→Option Nat) (k:Key):Option Value:=(br k).map fun i=>yE yI (i:Nat)
structure VR (K:Kn) (V:VI) (n nb:Nat) (par:Nat→List Nat) (tm:Nat→Mp) (br:Key→Option Nat) (w:World):Prop where
 c:w.heap[V.vb]?=yP (yL #[yE yH K.nr,yE yJ K.u0,yE yJ K.u1,yE yJ K.u2,yB (K.p4 V.eb),yB (K.p5 V.eb),yB (yP ⟨V.gb,0,yO⟩),.map (yP V.tb),.map (yP V.bb),.map (yP V.tg)] 188)
 e:K.is w V.eb none_
 g:∃ F,GR w V.gb V.pb n par F
 t:∃ tr:Nat→Nat,MF 35 gu w V.tb n (oZ K n tr)∧∀ i,1≤i→i≤n→K.is w (tr i) (tm i)
 b:MF 9 gs w V.bb nb (nM br)
 bl:∀ k i,br k=yP i→i≤n
 few:∀ i,1≤i→i≤n→aM (tm i) 1000
 d:V.pb≠V.tb∧V.pb≠V.bb∧V.tb≠V.bb
 n:nb≤2
variable {K:Kn} {V:VI} {n nb:Nat} {par:Nat→List Nat} {tm:Nat→Mp} {br:Key→Option Nat} {w w':World}
theorem VR.kept (h:VR K V n nb par tm br w) (hk:Kept w w'):VR K V n nb par tm br w':=
 ⟨(hk.block _ (yo.1 h.c).1).trans h.c,h.e.kept hk,let ⟨F,hF⟩:=h.g;⟨F,hF.kept hk⟩,let ⟨tr,h1,h2⟩:=h.t;⟨tr,h1.kept hk,fun i a b=>(h2 i a b).kept hk⟩,h.b.kept hk,h.bl,h.few,h.d,h.n⟩
theorem VR.n100 (h:VR K V n nb par tm br w):n≤100:=let ⟨F,hF⟩:=h.g;hF.s
theorem aY1 {S:Nat→Prop} (h:Sm S w w') (ho:∀ i cs t fr,S i→w.heap[i]?=yP (Obj.cells cs t fr)→∃ u,cs[0]?=yP u∧CL u):vC w w':=fun i cs t fr hi hc=>by
 by_cases hs:S i
 ·obtain⟨u,h1,h2⟩:=ho i cs t fr hs hi;exact absurd h2 (hc u h1)
 exact (h.same i (yo.1 hi).1 hs).trans hi
theorem VR.turns (h:VR K V n nb par tm br w) (hs:Sm V.S w w'):vC w w':=aY1 hs fun i cs t fr hi hb=>by
 obtain⟨F,hF⟩:=h.g;obtain⟨tr,ht,_⟩:=h.t;rcases hi with rfl | rfl | rfl | rfl
 ·rw [hF.c] at hb;cases hb;exact⟨_,rfl,trivial⟩
 ·obtain⟨es,ck,he⟩:=hF.m.heap;rw [he] at hb;cases hb
 ·obtain⟨es,ck,he⟩:=ht.heap;rw [he] at hb;cases hb
 obtain⟨es,ck,he⟩:=h.b.heap;rw [he] at hb;cases hb
theorem VR.off (h:VR K V n nb par tm br w):¬ V.S V.vb:=fun hi=>by
 obtain⟨F,hF⟩:=h.g;obtain⟨tr,ht,_⟩:=h.t;have hc:=h.c;rcases hi with e | e | e | e
 ·rw [e,hF.c] at hc;cases hc
 ·obtain⟨es,ck,he⟩:=hF.m.heap;rw [e,he] at hc;cases hc
 ·obtain⟨es,ck,he⟩:=ht.heap;rw [e,he] at hc;cases hc
 obtain⟨es,ck,he⟩:=h.b.heap;rw [e,he] at hc;cases hc
theorem VR.MD (h:VR K V n nb par tm br w):V.gb≠V.pb∧V.gb≠V.tb∧V.gb≠V.bb:=by
 obtain⟨F,hF⟩:=h.g;obtain⟨tr,ht,_⟩:=h.t;have hc:=hF.c;refine⟨fun e=>?_,fun e=>?_,fun e=>?_⟩
 ·obtain⟨es,ck,he⟩:=hF.m.heap;rw [e,he] at hc;cases hc
 ·obtain⟨es,ck,he⟩:=ht.heap;rw [e,he] at hc;cases hc
 obtain⟨es,ck,he⟩:=h.b.heap;rw [e,he] at hc;cases hc
theorem aHQ (w:World):(zeroValue 35).run yM w = .ok (yE yI 0) w:=by first | exact Tryz.zeroValue35 w | (simp [zeroValue];kernel_rfl)
theorem VR.look (h:VR K V n nb par tm br w) {name:Key} (hs:name.size≤100) :
  (Instr.lookup 186 (.map (yP V.bb)) (yA name) true).run yM w = .ok (.tuple #[yE yI (((br name).getD 0:Nat):Int),yD (br name).isSome]) w:=by
 have h1:=(h.b.look JU underlying186 aHQ (WN (s:=name) (by unfold maxLen;omega))).1;rw [h1];unfold nM;cases br name <;> rfl
theorem Q8 (name:Key) (w:World) (h:VR K V n nb par tm br w) (hs:name.size≤100) :
  Calls yM 132 #[yB (yP ⟨V.vb,0,yO⟩),yA name] w fun e w'=>e = .returned (.tuple #[yE yI (((br name).getD 0:Nat):Int),yD (br name).isSome])∧w=w':=by
 have hl:=h.look hs;have c8:=ch 8 h.c;generalize (((br name).getD 0:Nat):Int)=x at *;generalize (br name).isSome=y at *;go_enter func132,ntmps132;go_wp2_with fail;all_goals go_ret2
 all_goals exact⟨rfl,rfl⟩
theorem aY2 (i:Nat) (w:World) (h:VR K V n nb par tm br w) (hi:i<4294967296) :
  Calls yM 170 #[yB (yP ⟨V.vb,0,yO⟩),yE yI i] w fun e w'=>e = .returned (yD (decide (i≤n)))∧w=w':=by
 have c6:=ch 6 h.c;obtain⟨F,hF⟩:=h.g;have HG:=yN hF;by_cases h0:i=0
 ·subst h0;have hd:decide (0≤n)=true:=by simp
  rw [hd];go_enter func170,ntmps170;go_wp2_with fail;all_goals go_ret
  all_goals exact⟨rfl,rfl⟩
 have hb:((i:Int) == 0)=false:=by simpa using h0
 have hd:decide ((i:Int)=0)=false:=by simpa using h0
 go_enter func170,ntmps170;go_wp2_with fail;refine (KU V.gb V.pb n i par F w HG.o hi).mono ?_;rintro e w' ⟨rfl,rfl⟩;have iO:decide (1≤i∧i≤n)=decide (i≤n):=by congr 1;simp;omega
 rw [iO];generalize wE:decide (i≤n)=r;go_wp2_with fail;all_goals go_ret
 all_goals exact⟨by show Ending.returned (yD r)=_;rw [wE],rfl⟩
theorem aGC (i tU:Nat) (w:World) (h:VR K V n nb par tm br w) (hi:i<4294967296) (hf:tU<4294967296) :
  Calls yM 171 #[yB (yP ⟨V.vb,0,yO⟩),yE yI i,yE yI tU] w fun e w'=>∃ r:Bool,e = .returned (yD r)∧(r=true↔(i=0∨bV par n tU i))∧Kept w w':=by
 have c6:=ch 6 h.c;obtain⟨F,hF⟩:=h.g;have HG:=yN hF;by_cases h0:i=0
 ·subst h0;go_enter func171,ntmps171;go_wp2_with fail;all_goals go_ret
  all_goals exact⟨true,rfl,by simp,yk _ _⟩
 have hb:((i:Int) == 0)=false:=by simpa using h0
 have hd:decide ((i:Int)=0)=false:=by simpa using h0
 go_enter func171,ntmps171;go_wp2_with fail;refine (aUX V.gb V.pb n tU i par F w HG.o hf hi).mono ?_;rintro e w' ⟨r,rfl,hr,hk⟩;have HX:=yN (yd hr hk);go_wp2_with fail;all_goals go_ret
 all_goals exact⟨_,rfl,by rw [HX.o.1];simp [h0],HX.o.2⟩
end
section
open Sip
attribute [local irreducible] look
theorem VN (w:World):(zeroValue 179).run yM w = .ok (yF #[yE yH 0,yE yJ 0,yE yJ 0,yE yJ 0,yB yO,yB yO]) w:=by first | exact Tryz.zeroValue179 w | (simp [zeroValue];kernel_rfl)
def YF (K:Kn) (f:Mp) (w:World) (e:Ending) (w':World):Prop:=∃ c,e = .returned (.tuple #[yF #[yE yH K.nr,yE yJ K.u0,yE yJ K.u1,yE yJ K.u2,yB (K.p4 c),yB (K.p5 c)],yE yH 0])∧K.is w' c f∧Kept w w'
variable {K:Kn} {V:VI} {n nb:Nat} {par:Nat→List Nat} {tm:Nat→Mp} {br:Key→Option Nat}
theorem QM (i:Nat) (w:World) (h:VR K V n nb par tm br w) (hi:1≤i∧i≤n) :
  Calls yM 161 #[yB (yP ⟨V.vb,0,yO⟩),yE yI i] w (YF K (tm i) w):=by
 have hn:=h.n100;have hb:((i:Int) == 0)=false:=by simp;omega
 have hd:decide ((i:Int)=0)=false:=by simp;omega
 obtain⟨aA,aO⟩:=aW w (yL #[yE yH 0,yE yJ 0,yE yJ 0,yE yJ 0,yB yO,yB yO] 179);obtain⟨rb,aQ⟩:∃ rb,rb=w.heap.size:=⟨_,rfl⟩;have HA:=yN (yd (h.kept aA) (yd aO aA));clear aA aO h;go_enter func161,ntmps161;go_upto_region 1 with fail;rw [← aQ] at HA ⊢;generalize w.alloc _=w1 at *;have eT:=yN aQ;clear aQ;obtain⟨tr,ht,hk⟩:=HA.o.1.t;have hl:=(ht.look oP underlying184 VN (u7 (i:=i) (by omega))).1;have hf:oZ K n tr i=yP (K.tv (tr i)):=by unfold oZ;rw [if_pos hi]
 rw [hf,jA] at hl;have c7:=ch 7 HA.o.1.c;have HK:=yN (hk i hi.1 hi.2);clear ht hk hf;go_upto_region 6 with fail;obtain⟨BQ,D5⟩:=aW w1 (yL #[yE yH K.nr,yE yJ K.u0,yE yJ K.u1,yE yJ K.u2,yB (K.p4 (tr i)),yB (K.p5 (tr i))] 179);obtain⟨xb,fP⟩:∃ xb,xb=w1.heap.size:=⟨_,rfl⟩;rw [← fP] at D5 ⊢;generalize w1.alloc _=w2 at *;have aLE:=(BQ.block rb (yo.1 HA.o.2.1).1).trans HA.o.2.1;have e0:=ch 0 D5;have e1:=ch 1 D5;have e2:=ch 2 D5;have e3:=ch 3 D5;have e4:=ch 4 D5;have e5:=ch 5 D5;obtain⟨s0,s1,s2,s3,s4,s5,s6,s7,s8,s9,cK,jN,h6,z6,o6,k6⟩:=gN w2 rb 179 _ _ _ _ _ _ (yE yH K.nr) (yE yJ K.u0) (yE yJ K.u1) (yE yJ K.u2) (yB (K.p4 (tr i))) (yB (K.p5 (tr i))) aLE;have dV:=yN (yd h6 (yd o6 k6));have aH:=yN (yd (HK.o.kept BQ) (yd (aB HA.o.2.2 BQ) aLE));clear h6 z6 o6 k6 aLE D5 BQ fP hl c7;go_wp2_with fail;refine bodyPost_ret (fK rfl rfl dV.o.1 underlying179 rfl (by kernel_rfl)) rfl ?_;exact⟨tr i,rfl,aH.o.1.turn (eJ aH.o.2.2 rfl dV.o.2.1),dV.o.2.2 w w.heap.size aH.o.2.1 (yh eT.o.symm)⟩
theorem aV2 (w:World) (h:VR K V n nb par tm br w) :
  Calls yM 161 #[yB (yP ⟨V.vb,0,yO⟩),yE yI 0] w (YF K none_ w):=by
 obtain⟨aA,aO⟩:=aW w (yL #[yE yH 0,yE yJ 0,yE yJ 0,yE yJ 0,yB yO,yB yO] 179);obtain⟨rb,aQ⟩:∃ rb,rb=w.heap.size:=⟨_,rfl⟩;have HA:=yN (yd (h.kept aA) (yd aO aA));clear aA aO h;go_enter func161,ntmps161;go_upto_region 1 with fail;rw [← aQ] at HA ⊢;generalize w.alloc _=w1 at *;have eT:=yN aQ;clear aQ;have e0:=ch 0 HA.o.1.c;have e1:=ch 1 HA.o.1.c;have e2:=ch 2 HA.o.1.c;have e3:=ch 3 HA.o.1.c;have e4:=ch 4 HA.o.1.c;have e5:=ch 5 HA.o.1.c;obtain⟨s0,s1,s2,s3,s4,s5,s6,s7,s8,s9,cK,jN,h6,z6,o6,k6⟩:=gN w1 rb 179 _ _ _ _ _ _ (yE yH K.nr) (yE yJ K.u0) (yE yJ K.u1) (yE yJ K.u2) (yB (K.p4 V.eb)) (yB (K.p5 V.eb)) HA.o.2.1;have dV:=yN (yd h6 (yd o6 k6));clear h6 z6 o6 k6;go_wp2_with fail;refine bodyPost_ret (fK rfl rfl dV.o.1 underlying179 rfl (by kernel_rfl)) rfl ?_;exact⟨V.eb,rfl,HA.o.1.e.turn (eJ HA.o.2.1 rfl dV.o.2.1),dV.o.2.2 w w.heap.size HA.o.2.2 (yh eT.o.symm)⟩
end
end Go.Proofs.YtcldomgdkhenpaaGreat
