/- Lemmas. -/
import Derived.Test.YtcldomgdkhenpaaGreatJ12
import Derived.Deep.Cut
set_option linter.unusedVariables false
set_option maxRecDepth 1000000
set_option maxHeartbeats 40000000
open Go.Proofs.Tryz
open Go.Proofs.Tryz renaming prog → yM
open Go.Value renaming string → yA,slice → yC,bool → yD,int → yE,agg → yF
open Go.IntKind renaming i64 → yH
open Go.Obj renaming cells → yL
open Option renaming none → yO,some → yP
open Go.Lib renaming hid → yN
open And renaming intro → yd
open Array renaming getElem?_eq_some_iff → yo
open ByteArray renaming empty → yj
open Go.RowKit.Below renaming refl → yk,trans → yn
open List renaming length_append → yy
open Nat renaming le_refl → ye,le_trans → yf,zero_le → yg
open Go.RowKit
namespace Go.Proofs.YtcldomgdkhenpaaGreat
section
attribute [local irreducible] look
variable {n:Nat} {w:World}
theorem a2J:(yM.info? 55).map (fun i=>(i.zero,i.size,i.bytes))=yP (yP (yF #[yA yj,yA yj]),2,32):=by kernel_rfl
theorem JL:EI 55 48 2 32 (yF #[yA yj,yA yj]):=.of a2J underlying48 rfl (by decide) (by decide)
theorem aJK {B C k:Nat} {e:TypeId} {v:Value} {cs:List Value} (h:w.ownsRow B e k v n cs) (hc:C≤B):w.ownsRow C e k v n cs:=by
 refine⟨h.1,?_⟩;rcases h.2 with h2 | ⟨g,cap,cur,h2,h3,h4⟩
 ·exact .inl h2
 exact .inr ⟨g,cap,cur,h2,yf hc h3,h4⟩
theorem DC (a b:Key):∀ u∈[yA a,yA b],u.oneCell'=true:=by
 intro u hu;simp at hu;rcases hu with rfl | rfl <;> rfl
theorem DD {a:Option Addr} {cap:Nat} {l:List Pr} (h:Rd w (yC a n cap) n (aK l)) {j:Nat} {q:Pr} (hq:l[j]?=yP q):∃ g off,a=yP ⟨g,off,yO⟩∧n≤cap∧cap≤maxLen∧w.cell? ⟨g,off+j*2,yO⟩=yP (yA q.1)∧w.cell? ⟨g,off+j*2+1,yO⟩=yP (yA q.2):=by
 obtain⟨h1,h2⟩:=JT hq;rcases h with ⟨a',cap',e,_,_,h0⟩ | ⟨g,off,cap',e,q1,q2,q3,q4⟩
 ·rw [h0] at h1;cases h1
 cases e;have e1:=q4 _ _ h1;have e2:=q4 _ _ h2;rw [show off+2*j=off+j*2 by omega] at e1;rw [show off+(2*j+1)=off+j*2+1 by omega] at e2;exact⟨g,off,rfl,q1,q2,e1,e2⟩
def aKD (m:List Pr) (w:World) (e:Ending) (w':World):Prop:=∃ v,e = .returned v∧w'.ownsRow w.heap.size 55 2 v m.length (aK m)∧Kept w w'
theorem aWY (l:List Pr) (key:Key) (v:Value) (w:World) (h:Rd w v l.length (aK l)) (hl:l.length≤1000) :
  Calls yM 12 #[v,yA key] w (aKD (l.filter fun x=>decide (x.1≠key)) w):=by
 obtain⟨a,cap,rfl⟩:=h.shape;have HR:=yN h;obtain⟨f,hf⟩:∃ f:Pr→Bool,f=fun x=>decide (x.1≠key):=⟨_,rfl⟩;rw [← hf];have HF:=yN hf;clear h hf;go_enter func12,ntmps12;go_wp2_with fail
 go_loopg [5,10] l.length (fun kx s5 cK wr=>∃ (j:Nat) (v5:Value) (o:List Pr),v5=s5∧cK=yE yH j∧j≤l.length∧o.length≤j∧l.length-j≤kx∧Hid (o=(l.take j).filter f)∧Hid (wr.ownsRow w.heap.size 55 2 v5 o.length (aK o))∧Hid (Kept w wr))
 case atStart=>exact⟨0,_,[],rfl,rfl,yg _,ye _,ye _,yN rfl,yN (World.ownsRow_nil _ _ _ _),yN (yk _ _)⟩
 obtain⟨j,v5,o,rfl,rfl,hj,vM,hm,HI,HO,HK⟩:=hrel;by_cases hlt:j<l.length
 ·have d1:decide ((j:Int)<(l.length:Int))=true:=by simp;omega
  obtain⟨q,hq⟩:∃ q,l[j]?=yP q:=⟨l[j],List.getElem?_eq_getElem hlt⟩;obtain⟨g,off,rfl,hc1,hc2,e1,e2⟩:=DD (HR.o.kept HK.o) hq
  have HN:Hid ((l.take (j+1)).filter f=o++(if f q then [q] else [])):=yN (by
   rw [HI.o,List.take_add_one,hq,List.filter_append];simp [List.filter_cons])
  obtain⟨aA,aO⟩:=aW wr (yL #[yA q.1,yA q.2] 55);obtain⟨qb,uW⟩:∃ qb,qb=wr.heap.size:=⟨_,rfl⟩;clear hq;go_upto_region 5 with fail;rw [← uW] at aO ⊢;clear e1 e2 uW;generalize wr.alloc _=wq at *;have z0:=ch 0 aO;have z1:=ch 1 aO;have iF:=yN (aB HK.o aA);have kV:=yN (bT HO.o aA);have hsz:w.heap.size≤wq.heap.size:=iF.o.size;clear aO aA;by_cases hk:q.1=key
  ·have OI:f q=false:=by rw [HF.o];simp [hk]
   have cH:(ByteArray.toList q.1 == ByteArray.toList key)=true:=by rw [qJ];exact decide_eq_true hk
   have dN:Hid (o=(l.take (j+1)).filter f):=yN (by rw [HN.o,OI];simp);clear hk OI;go_wp2_with fail;go_roundg (l.length-(j+1));case measure=>omega
   exact⟨j+1,_,o,rfl,by go_num,by omega,by omega,ye _,dN,kV,iF⟩
  have OI:f q=true:=by rw [HF.o];simp [hk]
  have cH:(ByteArray.toList q.1 == ByteArray.toList key)=false:=by rw [qJ];exact decide_eq_false hk
  have dN:Hid (o ++ [q]=(l.take (j+1)).filter f):=yN (by rw [HN.o,OI];simp);clear hk OI;go_wp2_with (at_builtin;go_must (refine CC (v:=v5) JL rfl _ _ rfl w.heap.size o.length [yA q.1,yA q.2] rfl kV.o hsz rfl rfl (DC _ _) (by omega) ?_));intro v5 w5 hown gV hgrow fU;have nI:Hid (w5.ownsRow w.heap.size 55 2 v5 (o ++ [q]).length (aK (o ++ [q]))):=yN (by rw [lH,yy];exact hown);have bI:=yN (yn iF.o gV);clear hown gV hgrow fU z0 z1;go_wp2_with fail;go_roundg (l.length-(j+1));case measure=>omega
  exact⟨j+1,_,o ++ [q],rfl,by go_num,by omega,by simp;omega,ye _,dN,nI,bI⟩
 have d1:decide ((j:Int)<(l.length:Int))=false:=by simp;omega
 have nZ:j=l.length:=by omega
 go_wp2_with fail;go_ret;refine⟨v5,rfl,?_,HK.o⟩;have:=HI.o;rw [nZ,List.take_length] at this;rw [← this];exact HO.o
theorem aZX (l:List Pr) (p:Pr) (v:Value) (w:World) (h:Rd w v l.length (aK l)) (hl:l.length≤1000) (hz:∀ x∈l,x.1.size≤1000) (hp:p.1.size≤1000) :
  Calls yM 13 #[v,yF #[yA p.1,yA p.2]] w (aKD (vK l p) w):=by
 obtain⟨aA,aO⟩:=aW w (yL #[yA p.1,yA p.2] 55);obtain⟨pb,kU⟩:∃ pb,pb=w.heap.size:=⟨_,rfl⟩;have HR:=yN (h.kept aA);obtain⟨d,hd⟩:∃ d:List Pr,d=l.filter fun x=>decide (x.1≠p.1):=⟨_,rfl⟩;have HD:=yN hd;have cG:d.length≤1000:=by rw [hd];exact yf (List.length_filter_le _ _) hl
 have HZ:Hid (∀ x∈d,x.1.size≤1000):=yN fun x hx=>hz x (by rw [hd] at hx;exact (List.mem_filter.1 hx).1);clear h hd hz;go_enter func13,ntmps13;go_upto_region 1 with fail;rw [← kU] at aO ⊢;clear kU;generalize w.alloc _=w1 at *;have p0:=ch 0 aO;have p1:=ch 1 aO;have HA:=yN (yd aA aO);clear aO aA;go_wp2_with fail;refine (aWY l p.1 v w1 HR.o hl).mono ?_;rintro e w2 ⟨vd,rfl,hown,hk2⟩;rw [← HD.o] at hown;have tC:=yN (dH hown);obtain⟨a,cap,rfl⟩:=tC.o.shape;have aH:=yN (aB HA.o.1 hk2);have HP:=yN ((hk2.block _ (yo.1 HA.o.2).1).trans HA.o.2);clear p0 p1 hown hk2;go_wp2_with fail
 go_loopg [5,6,14] d.length (fun kx s5 s6 NI wr=>∃ (j:Nat) (v5:Value) (o:List Pr) (b:Bool),v5=s5∧s6=yD b∧NI=yE yH j∧j≤d.length∧Hid (o.length=j+(if b then 1 else 0))∧d.length-j≤kx∧Hid (jL p (d.take j)=(o,b))∧Hid (wr.ownsRow w2.heap.size 55 2 v5 o.length (aK o))∧Hid (Kept w2 wr))
 case atStart=>exact⟨0,_,[],false,rfl,rfl,rfl,yg _,yN rfl,ye _,yN rfl,yN (World.ownsRow_nil _ _ _ _),yN (yk _ _)⟩
 obtain⟨j,v5,o,b,rfl,rfl,rfl,hj,HJ,hm,HI,HO,HK⟩:=hrel;have vM:o.length≤j+1:=by rw [HJ.o];split <;> omega
 have UE:=(HK.o.block _ (yo.1 HP.o).1).trans HP.o;by_cases hlt:j<d.length
 ·have d1:decide ((j:Int)<(d.length:Int))=true:=by simp;omega
  obtain⟨q,hq⟩:∃ q,d[j]?=yP q:=⟨d[j],List.getElem?_eq_getElem hlt⟩;obtain⟨g,off,rfl,hc1,hc2,e1,e2⟩:=DD (tC.o.kept HK.o) hq;have HN:Hid (jL p (d.take (j+1))=uC p (o,b) q):=yN (by rw [aWX p d j q hq,HI.o]);have tK:=HZ.o q (List.mem_of_getElem? hq);obtain⟨aA,aO⟩:=aW wr (yL #[yA q.1,yA q.2] 55);obtain⟨qb,uW⟩:∃ qb,qb=wr.heap.size:=⟨_,rfl⟩;have HPQ:=yN ((aA.block _ (yo.1 UE).1).trans UE);clear hq;go_upto_region 6 with fail;rw [← uW] at aO ⊢;clear e1 e2 UE;have HQB:=yN uW;clear uW;have iF:=yN (aB HK.o aA);have kV:=yN (bT HO.o aA);have sJ:Hid (∀ g,v5.ownBlock=yP g→g≠qb∧g≠pb):=yN fun g hg=>⟨by have:=(HO.o.lt g hg).2;have:=HQB.o;omega,by have h1:=(HO.o.lt g hg).1;have h2:=(yo.1 HP.o).1;omega⟩;generalize wr.alloc _=wq at *;have HQ:=yN aO;have hsz:w2.heap.size≤wq.heap.size:=iF.o.size;clear aO aA;cases b with
  | true=>
   have z0:=ch 0 HQ.o;have z1:=ch 1 HQ.o;have dN:Hid (jL p (d.take (j+1))=(o ++ [q],true)):=yN (by rw [HN.o];rfl);go_wp2_with (at_builtin;go_must (refine CC (v:=v5) JL rfl _ _ rfl w2.heap.size o.length [yA q.1,yA q.2] rfl kV.o hsz rfl rfl (DC _ _) (by omega) ?_));intro v5 w5 hown gV hgrow fU;have nI:Hid (w5.ownsRow w2.heap.size 55 2 v5 (o ++ [q]).length (aK (o ++ [q]))):=yN (by rw [lH,yy];exact hown);have bI:=yN (yn iF.o gV);clear hown gV hgrow fU z0 z1;go_wp2_with fail;go_roundg (d.length-(j+1));case measure=>omega
   exact⟨j+1,_,o ++ [q],true,rfl,rfl,by go_num,by omega,yN (by have:=HJ.o;simp at this ⊢;omega),ye _,dN,nI,bI⟩
  | false=>
   have z0:=ch 0 HQ.o;have p0:=ch 0 HPQ.o;go_wp2_with fail;refine (aZR p.1 q.1 wq hp tK).mono ?_;rintro e w6 ⟨rfl,kA⟩;have dS:=yN (aB iF.o kA);have HO6:=yN (bT kV.o kA);have JH:=yN ((kA.block _ (yo.1 HQ.o).1).trans HQ.o);have mR:=yN ((kA.block _ (yo.1 HPQ.o).1).trans HPQ.o);have aLZ:=dS.o.size;clear z0 p0 kA;obtain hb | hb:lt p.1 q.1=true∨lt p.1 q.1=false:=by cases lt p.1 q.1 <;> simp
   ·rw [hb];have dN:Hid (jL p (d.take (j+1))=(o ++ [p] ++ [q],true)):=yN (by rw [HN.o];unfold uC;rw [hb];simp);have p0:=ch 0 mR.o;have p1:=ch 1 mR.o;go_wp2_with (at_builtin;go_must (refine CC (v:=v5) JL rfl _ _ rfl w2.heap.size o.length [yA p.1,yA p.2] rfl HO6.o aLZ rfl rfl (DC _ _) (by omega) ?_));intro v7 w7 hown gV hgrow fU;have HO7:Hid (w7.ownsRow w2.heap.size 55 2 v7 (o ++ [p]).length (aK (o ++ [p]))):=yN (by rw [lH,yy];exact hown);have fI:=yN (yn dS.o gV);have HQ7:=(hgrow.block qb (yo.1 JH.o).1 (fun e=>(sJ.o qb e.symm).1 rfl)).trans JH.o;have a9W:=fI.o.size;have I5:(o ++ [p]).length≤1000002:=by simp;omega
    clear hown gV hgrow fU p0 p1;have z0:=ch 0 HQ7;have z1:=ch 1 HQ7;clear HQ7;go_wp2_with (at_builtin;go_must (refine CC (v:=v7) JL rfl _ _ rfl w2.heap.size (o ++ [p]).length [yA q.1,yA q.2] rfl HO7.o a9W rfl rfl (DC _ _) (by simp;omega) ?_));intro v8 w8 hown gV hgrow fU;have HO8:Hid (w8.ownsRow w2.heap.size 55 2 v8 (o ++ [p] ++ [q]).length (aK (o ++ [p] ++ [q]))):=yN (by rw [lH,show (o ++ [p] ++ [q]).length=o.length+1+1 by simp];exact hown);have cX:=yN (yn fI.o gV);clear hown gV hgrow fU z0 z1;go_wp2_with fail;go_roundg (d.length-(j+1));case measure=>omega
    exact⟨j+1,_,o ++ [p] ++ [q],true,rfl,rfl,by go_num,by omega,yN (by have:=HJ.o;simp at this ⊢;omega),ye _,dN,HO8,cX⟩
   rw [hb];have dN:Hid (jL p (d.take (j+1))=(o ++ [q],false)):=yN (by rw [HN.o];unfold uC;rw [hb];simp);have z0:=ch 0 JH.o;have z1:=ch 1 JH.o;go_wp2_with (at_builtin;go_must (refine CC (v:=v5) JL rfl _ _ rfl w2.heap.size o.length [yA q.1,yA q.2] rfl HO6.o aLZ rfl rfl (DC _ _) (by omega) ?_));intro v5 w5 hown gV hgrow fU;have nI:Hid (w5.ownsRow w2.heap.size 55 2 v5 (o ++ [q]).length (aK (o ++ [q]))):=yN (by rw [lH,yy];exact hown);have bI:=yN (yn dS.o gV);clear hown gV hgrow fU z0 z1;go_wp2_with fail;go_roundg (d.length-(j+1));case measure=>omega
   exact⟨j+1,_,o ++ [q],false,rfl,rfl,by go_num,by omega,yN (by have:=HJ.o;simp at this ⊢;omega),ye _,dN,nI,bI⟩
 have d1:decide ((j:Int)<(d.length:Int))=false:=by simp;omega
 have nZ:j=d.length:=by omega
 have uN:Hid (vK l p=if b=true then o else o ++ [p]):=yN (by
  have:=HI.o;rw [nZ,List.take_length] at this;unfold vK D8;rw [← HD.o,this])
 have p0:=ch 0 UE;have p1:=ch 1 UE;have hsz:=HK.o.size;clear UE;cases b with
 | true=>
  go_wp2_with fail;go_ret;refine⟨v5,rfl,?_,aB aH.o HK.o⟩;rw [uN.o];exact aJK HO.o aH.o.size
 | false=>
  go_wp2_with (at_builtin;go_must (refine CC (v:=v5) JL rfl _ _ rfl w2.heap.size o.length [yA p.1,yA p.2] rfl HO.o hsz rfl rfl (DC _ _) (by omega) ?_));intro v7 w7 hown gV hgrow fU;have HO7:Hid (w7.ownsRow w2.heap.size 55 2 v7 (o ++ [p]).length (aK (o ++ [p]))):=yN (by rw [lH,yy];exact hown);have fI:=yN (yn HK.o gV);clear hown gV hgrow fU p0 p1;go_wp2_with fail;go_ret;refine⟨v7,rfl,?_,aB aH.o fI.o⟩;rw [uN.o];exact aJK HO7.o aH.o.size
end
end Go.Proofs.YtcldomgdkhenpaaGreat
