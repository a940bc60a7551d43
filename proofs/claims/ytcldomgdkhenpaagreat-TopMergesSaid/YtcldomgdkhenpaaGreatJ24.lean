/- Lemmas. -/
import Derived.Test.YtcldomgdkhenpaaGreatJ15
import Derived.Test.YtcldomgdkhenpaaGreatJ22
set_option linter.unusedVariables false
set_option maxRecDepth 1000000
set_option maxHeartbeats 40000000
open Go.Proofs.Tryz
open Go.Proofs.Tryz renaming prog → yM
open Go.Value renaming string → yA,pointer → yB,slice → yC,int → yE,agg → yF
open Go.IntKind renaming i64 → yH,u64 → yJ
open Go.Obj renaming cells → yL
open Option renaming none → yO,some → yP
open Go.Lib renaming hid → yN
open And renaming intro → yd
open Array renaming getElem?_eq_some_iff → yo
open ByteArray renaming empty → yj
open Go.RowKit.Below renaming refl → yk
open List renaming mem_map → zj
open Nat renaming le_refl → ye,zero_le → yg
open Go.RowKit
namespace Go.Proofs.YtcldomgdkhenpaaGreat
section
open Sip
theorem aIQ {l s:List Pr} (h:iI l s):s.length≤l.length:=by
 have:=C2 (s.map Prod.fst) (l.map Prod.fst) (by rw [List.Nodup,List.pairwise_map];exact h.rise.imp fun hh=>oX hh) (fun k hk=>by
  obtain⟨p,hp,rfl⟩:=zj.1 hk;exact List.mem_map_of_mem (h.sub p hp))
 rwa [List.length_map,List.length_map] at this
def a36 (k0 k1 mk:UInt64) (l:List Pr) (w:World) (e:Ending) (w':World):Prop:=
 ∃ c s,e = .returned (yB (yP ⟨c,0,yO⟩))∧iI l s∧CT (bN k0 k1 mk) w' 0 c (look s)∧Kept w w'
theorem aVT (hs:Key→Nat):cV hs []=[]:=rfl
theorem a1K (hs:Key→Nat) (p:Pr):cV hs [p]=[yA p.1,yA p.2,yE yJ (hs p.1:Nat)]:=rfl
attribute [local irreducible] bN cV look
theorem aVU (k0 k1 mk:UInt64) (n:Nat) (v:Value) (l:List Pr) (w:World) (h:Rd w v n (aK l)) (hl:n=l.length) (bHJ:n<20) (hz:∀ p∈l,p.1.size≤300) :
  Calls yM 234 #[hv k0 k1 mk,v] w (a36 k0 k1 mk l w):=by
 obtain⟨i0,bS,hz0,hzs,hzb⟩:=info_parts aIX;obtain⟨aA,hb⟩:=aW w (yL #[yE yJ (nu k0),yE yJ (nu k1),yE yJ (nu mk)] 26);have HR:=yN (h.kept aA);have HN:=yN (yd hl hz);have HA:=yN aA;have HB:=yN hb;clear h aA hb hl hz;show Calls yM 234 #[yF #[yE yJ (nu k0),yE yJ (nu k1),yE yJ (nu mk)],v] w _;go_enter func234,ntmps234;go_wp2_with fail;generalize w.alloc _=w1 at *;obtain⟨hq,gM⟩:∃ hq,hq=w.heap.size:=⟨_,rfl⟩;rw [← gM] at HB ⊢;clear gM;refine (U6 n v l w1 HR.o HN.o.1 (by omega)).mono ?_;rintro e w2 ⟨sv,s,rfl,SI,ER,hk2⟩;have pB:=aIQ ER;have hsn:s.length<20:=by have:=HN.o.1;omega
 have CE:=yN ER;have aH:=yN (aB HA.o hk2);have HSV:=yN (dH SI);have mM:=yN ((hk2.block hq (yo.1 HB.o).1).trans HB.o);have HKZ:Hid (∀ p∈s,p.1.size≤1000):=yN (fun p hp=>by have:=HN.o.2 p (ER.sub p hp);omega);obtain⟨sa,sc,rfl⟩:=bW SI;clear SI ER hk2 pB HR HB;go_wp2_with fail
 go_loopg [5,11] s.length (fun kx s5 jN wr=>∃ (i:Nat) (av:Value),jN=yE yH i∧av=s5∧i≤s.length∧s.length-i≤kx∧Hid (wr.ownsRow w2.heap.size 397 3 av i (cV (bN k0 k1 mk) (s.take i)))∧Hid (Kept w2 wr))
 case atStart=>exact⟨0,yC yO 0 0,rfl,rfl,yg _,ye _,yN (by rw [List.take_zero,aVT];exact World.ownsRow_nil _ _ _ _),yN (yk _ _)⟩
 obtain⟨i,av,rfl,rfl,hi,hm,HO,aV⟩:=hrel;by_cases hlt:i<s.length
 ·have cD:(i:Int)<(s.length:Int):=by omega
  have a8I:(0:Int)≤(i:Int):=by omega
  have ei:((i:Nat):Int).toNat=i:=by omega
  obtain⟨g,off,rfl,j8,hcm,HC⟩:∃ g off,sa=yP ⟨g,off,yO⟩∧s.length≤sc∧sc≤maxLen∧Hid (∀ j u,(aK s)[j]?=yP u→w2.cell? ⟨g,off+j,yO⟩=yP u):=by
   rcases HSV.o with ⟨a',cap',e,_,e0,_⟩ | ⟨g,off,cap',e,h1,h2,_,hcs⟩
   ·omega
   cases e;exact⟨g,off,rfl,h1,h2,yN hcs⟩
  obtain⟨p,hp⟩:∃ p,s[i]?=yP p:=⟨s[i],List.getElem?_eq_getElem hlt⟩;obtain⟨f1,f2⟩:=yS hp;have e1:=aV.o.cell (HC.o _ _ f1);have e2:=aV.o.cell (HC.o _ _ f2);rw [← Nat.add_assoc] at e2;obtain⟨aA,hb⟩:=aW wr (yL #[yA p.1,yA p.2] 52);have x0:=ch 0 hb;have x1:=ch 1 hb;have hHB:=(aA.block hq (by have:=(yo.1 (aV.o.block hq (yo.1 mM.o).1 |>.trans mM.o)).1;exact this)).trans ((aV.o.block hq (yo.1 mM.o).1).trans mM.o);have y0:=ch 0 hHB;have y1:=ch 1 hHB;have y2:=ch 2 hHB;have ET:=HKZ.o p (List.mem_of_getElem? hp);have cA:=yN aA;have HP:=yN hp;have HX:Hid (wr.heap.size<(wr.alloc (yL #[yA p.1,yA p.2] 52)).heap.size∧w2.heap.size≤wr.heap.size∧hq<w2.heap.size):=yN ⟨by simp,aV.o.size,(yo.1 mM.o).1⟩;clear f1 f2 aA hb hp hHB;go_wp2_with fail;generalize wr.alloc _=w3 at *;obtain⟨xb,fP⟩:∃ xb,xb=wr.heap.size:=⟨_,rfl⟩;rw [← fP] at x0 x1 ⊢;have hnx:∀ q,av.ownBlock=yP q→q≠xb∧q≠hq:=fun q hq=>by
   have:=HO.o.lt q hq;have:=HX.o;exact⟨by omega,by omega⟩
  have tE:=yN hnx;clear fP hnx e1 e2;have aP:=yN (dY cA.o);refine jE (fun W:World=>W.cell? ⟨xb,0,yO⟩=yP (yA p.1)∧W.cell? ⟨xb,1,yO⟩=yP (yA p.2)∧W.cell? ⟨hq,0,yO⟩=yP (yE yJ (nu k0))∧W.cell? ⟨hq,1,yO⟩=yP (yE yJ (nu k1))∧W.cell? ⟨hq,2,yO⟩=yP (yE yJ (nu mk))) 10 ⟨x0,x1,y0,y1,y2⟩ fun HS=>?_;clear x0 x1 y0 y1 y2;generalize w3.drew=w4 at *;refine tH 0 HS ?_;refine tH 1 HS ?_;refine tH 2 HS ?_;refine tH 3 HS ?_;refine tH 4 HS ?_;go_frame;refine oH 5 fun K hK=>?_;go_simp;refine (GJ k0 k1 mk p.1 w4 ET).mono ?_;rintro e w5 ⟨rfl,hk⟩;have aF:=yN (aD (aD (aD (aD bL))) hk HS.o);have bI:=yN (aB aP.o hk);refine hK _ _ aF.o ?_;clear hK K HS hk aP;have HS:=aF;clear aF;refine oH 6 fun K hK=>?_;go_simp;refine hK _ _ HS.o ?_;clear hK K;refine oH 7 fun K hK=>?_;go_simp;have aA:=aZ w5 (yL #[yA p.1,yA p.2,yE yJ (bN k0 k1 mk p.1:Nat)] 397);have ZZ:=yN aA;have aF:=yN (aD (aD (aD (aD bL))) aA HS.o);refine hK _ _ aF.o ?_;clear hK K HS aA;have HS:=aF;clear aF;have nI:=yN (bT HO.o (aB bI.o ZZ.o));have iH:=UK w5 (yA p.1) (yA p.2) (yE yJ (bN k0 k1 mk p.1:Nat)) 397;have h1c:∀ u∈[yA p.1,yA p.2,yE yJ (bN k0 k1 mk p.1:Nat)],u.oneCell'=true:=by intro u hu;simp at hu;rcases hu with rfl | rfl | rfl <;> rfl
  have hz2:=aV.o.size;have hz3:=bI.o.size;have bH:=ZZ.o.size;have hmx:i+1≤maxLen:=by unfold maxLen;omega
  have hZ:w2.heap.size≤(w5.alloc (yL #[yA p.1,yA p.2,yE yJ (bN k0 k1 mk p.1:Nat)] 397)).heap.size:=by omega
  refine oH 8 fun K hK=>?_;refine (if_pos (show Region.wanted _ _=true from rfl)).mpr ?_;refine A2 _ _ 395 rfl w2.heap.size 397 i0 (yF #[yA yj,yA yj,yE yJ 0]) 3 40 underlying395 bS hz0 hzs hzb rfl (by decide) _ _ _ rfl nI.o ⟨w5.heap.size,0,yO⟩ 1 1 [yA p.1,yA p.2,yE yJ (bN k0 k1 mk p.1:Nat)] rfl rfl iH h1c hmx (by omega) hZ ?_;intro v' w6 hown hgrow fU;have kY:(fun W:World=>W.cell? ⟨xb,0,yO⟩=yP (yA p.1)∧W.cell? ⟨xb,1,yO⟩=yP (yA p.2)∧W.cell? ⟨hq,0,yO⟩=yP (yE yJ (nu k0))∧W.cell? ⟨hq,1,yO⟩=yP (yE yJ (nu k1))∧W.cell? ⟨hq,2,yO⟩=yP (yE yJ (nu mk))) w6:=⟨eG hgrow HS.o.1 (fun e=>(tE.o _ e.symm).1 rfl),eG hgrow HS.o.2.1 (fun e=>(tE.o _ e.symm).1 rfl),eG hgrow HS.o.2.2.1 (fun e=>(tE.o _ e.symm).2 rfl),eG hgrow HS.o.2.2.2.1 (fun e=>(tE.o _ e.symm).2 rfl),eG hgrow HS.o.2.2.2.2 (fun e=>(tE.o _ e.symm).2 rfl)⟩;obtain⟨va,vc,rfl⟩:=bW hown;refine hK _ _ kY ?_;clear hK K HS;have HS:=yN kY;have dC:=yN (yd hown (show Kept w2 w6 from Below.grown (aB aV.o (aB bI.o ZZ.o)) hgrow (by omega) (fun q hq=>(nI.o.lt q hq).1)));clear hown hgrow fU iH h1c hZ kY;refine oH 9 fun K hK=>?_;go_simp;refine hK _ _ HS.o ?_;clear hK K;refine dA ?_;go_wp2;go_roundg (s.length-(i+1));case measure=>omega
  refine⟨i+1,yC va (i+1) vc,by congr 1,rfl,by omega,ye _,yN ?_,yN dC.o.2⟩;have ht:s.take (i+1)=s.take i ++ [p]:=by rw [List.take_add_one,HP.o];rfl
  rw [ht,aF9,a1K];exact dC.o.1
 have OC:i=s.length:=by omega
 subst OC;have cD:¬ (s.length:Int)<(s.length:Int):=by omega
 obtain⟨va,vc,rfl⟩:=bW HO.o;have hO:=HO.o;rw [List.take_of_length_le (ye _)] at hO;have HT:=yN (aHM (bN k0 k1 mk) (BI k0 k1 mk) 13 0 rfl s _ s.length wr (dH hO) rfl hsn (CE.o.rise.imp fun hh=>oX hh));clear hO;go_wp2_with fail;refine (HT.o).mono ?_;rintro e w7 ⟨c,rfl,dK,E6⟩;have HH:=yN (yd dK (aB aH.o (aB aV.o E6)));clear dK E6;go_wp2;go_ret;exact⟨c,s,rfl,CE.o,HH.o.1,HH.o.2⟩
end
end Go.Proofs.YtcldomgdkhenpaaGreat
