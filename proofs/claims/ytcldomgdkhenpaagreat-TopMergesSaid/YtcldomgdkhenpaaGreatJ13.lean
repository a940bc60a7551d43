/- Lemmas. -/
import Derived.Test.YtcldomgdkhenpaaGreatJ05
import Derived.Test.YtcldomgdkhenpaaGreatJ07
set_option linter.unusedVariables false
set_option maxRecDepth 1000000
set_option maxHeartbeats 40000000
open Go.Proofs.Tryz
open Go.Proofs.Tryz renaming prog → yM
open Go.Value renaming string → yA,pointer → yB,slice → yC,bool → yD,int → yE,agg → yF,func → yG
open Go.IntKind renaming i64 → yH,u64 → yJ
open Go.Obj renaming cells → yL
open Option renaming none → yO,some → yP
open Go.Lib renaming hid → yN
open And renaming intro → yd
open Array renaming getElem?_eq_some_iff → yo
open ByteArray renaming empty → yj
open Go.IntKind renaming wrap_i64 → zk
open Go.RowKit.Below renaming drew → ym,refl → yk
open List renaming getElem_cons_succ → yr,getElem_cons_zero → yq,getElem_toArray → yt,mem_cons → yx,setIfInBounds_toArray → yp,set_cons_succ → yv,set_cons_zero → yu
open Nat renaming le_of_eq → yh,le_refl → ye,le_trans → yf,lt_of_lt_of_le → yi,zero_le → yg
open Go.RowKit
namespace Go.Proofs.YtcldomgdkhenpaaGreat
section
open Sip
def bN (k0 k1 m:UInt64) (s:Key):Nat:=(MB k0 k1 s.data.toList &&& m).toNat
theorem BI (k0 k1 m:UInt64) (s:Key):bN k0 k1 m s<18446744073709551616:=UInt64.toNat_lt _
def hv (k0 k1 m:UInt64):Value:=yF #[yE yJ (nu k0),yE yJ (nu k1),yE yJ (nu m)]
theorem GJ (k0 k1 m:UInt64) (s:Key) (w:World) (hs:s.size≤1000) :
  Calls yM 228 #[hv k0 k1 m,yA s] w fun e w'=>e = .returned (yE yJ (bN k0 k1 m s:Nat))∧Kept w w':=by
 have a8P:∀ w,Calls yM 293 #[yF #[yE yJ (nu k0),yE yJ (nu k1)],yA s] w fun e w'=>∃ x:UInt64,x=MB k0 k1 s.data.toList∧e = .returned (yE yJ (nu x))∧Kept w w':=fun w=>by
  refine (a1J k0 k1 s w hs).mono ?_;rintro e w' ⟨rfl,hk⟩;exact⟨_,rfl,rfl,hk⟩
 have sY:=yN a8P;clear a8P;show Calls yM 228 #[yF #[yE yJ (nu k0),yE yJ (nu k1),yE yJ (nu m)],yA s] w _;go_enter func228,ntmps228;go_wp2_with fail;have aA:=aZ w (yL #[yE yJ (nu k0),yE yJ (nu k1),yE yJ (nu m)] 26);have hb0:=bM w (yL #[yE yJ (nu k0),yE yJ (nu k1),yE yJ (nu m)] 26);have aP:Hid (Kept w (w.alloc (yL #[yE yJ (nu k0),yE yJ (nu k1),yE yJ (nu m)] 26)).drew):=yN (ym aA);obtain⟨hb,gM⟩:∃ hb,hb=w.heap.size:=⟨_,rfl⟩;rw [← gM] at hb0 ⊢;have HS:Hid ((fun W:World=>W.cell? ⟨hb,0,yO⟩=yP (yE yJ (nu k0))∧W.cell? ⟨hb,1,yO⟩=yP (yE yJ (nu k1))∧W.cell? ⟨hb,2,yO⟩=yP (yE yJ (nu m))) (w.alloc (yL #[yE yJ (nu k0),yE yJ (nu k1),yE yJ (nu m)] 26)).drew):=yN ⟨aG hb0 rfl,aG hb0 rfl,aG hb0 rfl⟩;clear aA hb0 gM;refine IM (fun W:World=>W.cell? ⟨hb,0,yO⟩=yP (yE yJ (nu k0))∧W.cell? ⟨hb,1,yO⟩=yP (yE yJ (nu k1))∧W.cell? ⟨hb,2,yO⟩=yP (yE yJ (nu m))) 7 8 ?_;generalize (w.alloc _).drew=wd at *;refine tM 0 HS ?_;go_frame;refine lM 1 HS ?_;go_frame;refine tM 2 HS ?_;go_frame;refine tM 4 HS ?_;go_frame;refine lM 5 HS ?_;go_frame;refine oM 3 fun K hK=>?_;go_simp;refine (sY.o _).mono ?_;rintro e w2 ⟨x,hx,rfl,hk⟩;have aF:=yN (yd (hk.cell HS.o.1) (yd (hk.cell HS.o.2.1) (hk.cell HS.o.2.2)));have aH:=yN (aB aP.o hk);have HX:=yN hx;refine hK _ _ (.inr aF.o) ?_;clear hK K HS aP hk hx;refine oM 6 fun K hK=>?_;go_simp;refine hK _ _ (.inr aF.o) ?_;clear hK K;refine oM 7 fun K hK=>?_;go_simp;refine hK _ _ (.inl (by kernel_rfl)) ?_;clear hK K;refine uX (by kernel_rfl) ?_ _;go_wp2;go_ret;refine⟨gO ?_,aH.o⟩;unfold bN;rw [← HX.o];rw [a3N];unfold nu;rfl
end
section
open Sip
attribute [local irreducible] eR eL
theorem XQ (b:Nat) (k:Key) (l:List Pr) (w:World) (h:NB w b l) (hl:l.length≤100000) (hr:bR l) :
  Calls yM 252 #[yB (yP ⟨b,0,yO⟩),yA k] w fun e w'=>e = .returned (.tuple #[yA ((look l k).getD yj),yD (look l k).isSome])∧Kept w w':=by
 have HR:=yN hr;have HL:=yN hl;obtain⟨pv,kv,h0,h3,h4⟩:=h;have H0:=yN (yd h0 h3);have a6A:(eL l k=false∧look l k=yO)∨(eL l k=true∧∃ q,l[eR l k]?=yP q∧look l k=yP q.2):=by
  cases hh:eL l k with
  | false=>exact .inl ⟨rfl,aZ9 HR.o hh⟩
  | true=>
   obtain⟨q,h1,_,h2⟩:=aXF HR.o hh;exact .inr ⟨rfl,q,h1,h2⟩
 have uP:=yN a6A;obtain⟨lk,hlk⟩:∃ lk,lk=look l k:=⟨_,rfl⟩;rw [← hlk] at uP ⊢;go_enter func252,ntmps252;go_wp2_with fail;refine (J6 _ _ _ _ _ _ _ _ _ H0.o.1 H0.o.2 (lG _) (yf HL.o (by decide)) (nQ _)).mono ?_;rintro e w1 ⟨v,rfl,ho,aS⟩;have HO:=yN ho;have aJ:=yN aS;obtain⟨a,cap,rfl⟩:=bW ho;go_wp2_with fail;refine (J7 _ l.length k l _ (dH HO.o) rfl (yf HL.o (by decide)) HR.o).mono ?_;rintro e w2 ⟨rfl,hk2⟩;have aH:=yN (aB aJ.o hk2);rcases uP.o with ⟨e1,rfl⟩ | ⟨e1,q,hq,rfl⟩
 ·rw [e1];go_wp2;go_ret2;exact⟨rfl,aH.o⟩
 rw [e1];have lX:=(List.getElem?_eq_some_iff.1 hq).1;obtain⟨g,hg⟩:∃ g,a=yP ⟨g,0,yO⟩:=by
  rcases HO.o.2 with ⟨_,e⟩ | ⟨g,cap',cur,e,_⟩
  ·omega
  cases e;exact⟨g,rfl⟩
 subst hg;have c1:w2.cell? ⟨g,eR l k*2+1,yO⟩=yP (yA q.2):=hk2.cell (gU HO.o (yS hq).2);go_wp2;go_ret2;exact⟨rfl,aH.o⟩
theorem Q6 (b:Nat) (w:World):Calls yM 230 #[yB (yP ⟨b,0,yO⟩)] w fun e w'=>e = .returned (yB (yP ⟨b,0,yO⟩))∧w=w':=by
 go_enter func230,ntmps230;go_wp2;go_ret;exact⟨rfl,rfl⟩
end
section
open Sip
attribute [local irreducible] five look
variable {Q:Nat→Option Nat} {P:Nat→Option Pr} {b:Nat} {w:World}
theorem BC (hs:Key→Nat) (lvl:Nat) (fs:Nat→Mp) (k:Key):join hs lvl fs k=fs (five (hs k) lvl) k:=by unfold join;rfl
theorem CI.few {hs:Key→Nat} {lvl:Nat} {fs:Nat→Mp} (h:CI hs w lvl b P Q fs) {n:Nat} (hf:aM (join hs lvl fs) n) (i:Nat):aM (fs i) n:=
 hf.sub fun k v hk=>by rw [BC,h.h4 i k v hk];exact hk
theorem NS.na (h:NS w b P Q):∃ d n pv kv,NA w b d n pv kv false:=let ⟨d,n,pv,kv,h0,_⟩:=h;⟨d,n,pv,kv,h0⟩
theorem aVI (k0 k1 m:UInt64) (b:Nat) (k:Key) (f:Mp) (w:World) (h:CT (bN k0 k1 m) w 0 b f) (hs:k.size≤1000) (hf:aM f 1000) :
  Calls yM 179 #[hv k0 k1 m,yB (yP ⟨b,0,yO⟩),yA k] w fun e w'=>e = .returned (.tuple #[yA ((f k).getD yj),yD (f k).isSome])∧Kept w w':=by
 have H:=yN h;have HF:=yN hf;obtain⟨fk,vS⟩:∃ fk,fk=f k:=⟨_,rfl⟩;rw [← vS];have HFK:=yN vS;obtain⟨hk,hhk⟩:∃ hk,hk=bN k0 k1 m k:=⟨_,rfl⟩;have hlt:hk<18446744073709551616:=by rw [hhk];exact BI _ _ _ _
 have HH:=yN hhk;clear h hf vS hhk;show Calls yM 179 #[yF #[yE yJ (nu k0),yE yJ (nu k1),yE yJ (nu m)],yB (yP ⟨b,0,yO⟩),yA k] w _;go_enter func179,ntmps179;go_wp2_with fail;have bG:Hid (Kept w (w.alloc (yL #[yE yJ (nu k0),yE yJ (nu k1),yE yJ (nu m)] 26))):=yN (aZ _ _);generalize w.alloc _=w0 at *;refine (GJ k0 k1 m k _ hs).mono ?_;rintro e w1 ⟨rfl,aS⟩;rw [← HH.o];have aJ:=yN (aB bG.o aS);clear aS;go_wp2_with fail;refine (Q6 b _).mono ?_;rintro e w' ⟨rfl,rfl⟩;go_wp2_with fail
 go_loopg [9,10] 13 (fun kx s9 cK wr=>∃ (b' lvl:Nat) (f':Mp),s9=yB (yP ⟨b',0,yO⟩)∧cK=yE yH lvl∧lvl≤13∧13-lvl≤kx∧Hid (CT (bN k0 k1 m) wr lvl b' f'∧f' k=fk∧aM f' 1000)∧Hid (Kept w wr))
 case atStart=>exact⟨b,0,f,rfl,rfl,yg _,ye _,yN ⟨H.o.kept aJ.o,HFK.o.symm,HF.o⟩,aJ⟩
 clear aJ bG H HF;obtain⟨b',lvl,f',rfl,rfl,R7,hg,HC,HK⟩:=hrel;rcases HC.o.1.ci with ⟨rfl,l,aO,hr,e⟩ | ⟨P,Q,fs,ci,e⟩
 ·have HN:=yN (yd aO hr);have HL:=yN (show l.length≤1000 from (tP hr).few (e ▸ HC.o.2.2));have hlk:fk=look l k:=by rw [← HC.o.2.1,e]
  obtain⟨_,_,h0,_⟩:=aO;have uP:=yN hlk;clear hr e hlk;go_wp2_with fail;refine (xA _ _ _ _ _ _ _ h0).mono ?_;rintro e w' ⟨rfl,rfl⟩;clear h0;go_wp2_with fail;refine (XQ _ k l _ HN.o.1 (yf HL.o (by decide)) HN.o.2).mono ?_;rintro e w2 ⟨rfl,hk2⟩;rw [← uP.o];have aH:=yN (aB HK.o hk2);clear hk2;go_wp2;go_ret2;exact⟨rfl,aH.o⟩
 have HI:=yN ci;have HE:=yN e;have hlv:=ci.hl;obtain⟨d,n,pv,kv,h0⟩:=ci.h0.na;obtain⟨i,hi⟩:∃ i,i=five hk lvl:=⟨_,rfl⟩;have cY:i<32:=by rw [hi];exact uZ _ _
 have vS:fk=fs i k:=by rw [← HC.o.2.1,e,BC,← HH.o,← hi]
 have pQ:=yN (ci.few (e ▸ HC.o.2.2) i);have HI5:=yN hi;have TL:=yN vS;clear ci e vS hi;go_wp2_with fail;refine (xA _ _ _ _ _ _ _ h0).mono ?_;rintro e w' ⟨rfl,rfl⟩;clear h0;go_wp2_with fail;refine (aIW hk lvl _ hlt hlv).mono ?_;rintro e w' ⟨rfl,rfl⟩;rw [← HI5.o];go_wp2_with fail;cases hP:P i with
 | some p=>
  refine (QZ _ i p P Q _ HI.o.h0 cY hP).mono ?_;rintro e w2 ⟨rfl,hk2⟩;have aH:=yN (aB HK.o hk2);have zE:=(HI.o.h1 i p hP).2;clear hk2;have h2:=qJ p.1 k;by_cases xN:p.1=k
  ·rw [decide_eq_true xN] at h2;have hv:fk=yP p.2:=by rw [TL.o,zE,← xN];exact DK p
   clear zE;subst hv;clear xN;go_wp2;go_ret2;exact⟨rfl,aH.o.alloc aH.o.size _⟩
  rw [decide_eq_false xN] at h2;have hv:fk=yO:=by rw [TL.o,zE];exact GU p (fun e=>xN e.symm)
  clear zE;subst hv;clear xN;go_wp2;go_ret2;exact⟨rfl,aH.o.alloc aH.o.size _⟩
 | none=>
  refine (RB _ i P Q _ HI.o.h0 cY hP).mono ?_;rintro e w2 ⟨rfl,hk2⟩;have aH:=yN (aB HK.o hk2);have OG:=yN (HI.o.h0.kept hk2);have OH:=yN (show ∀ k',Q i=yP k'→CT (bN k0 k1 m) w2 (lvl+1) k' (fs i) from fun k' hq=>(HI.o.h2 i k' hq).kept hk2);clear hk2;go_wp2_with fail;have aA:=aZ w2 (yL #[yA yj,yA yj] 52);have aL:=yN (aB aH.o aA);have eA:=yN (OG.o.kept aA);have kC:=yN (show ∀ k',Q i=yP k'→CT (bN k0 k1 m) (w2.alloc (yL #[yA yj,yA yj] 52)) (lvl+1) k' (fs i) from fun k' hq=>(OH.o k' hq).kept aA);clear aA aH OG OH;generalize w2.alloc _=w3 at *;cases hQ:Q i with
  | none=>
   refine (BF _ i P Q _ eA.o cY hQ).mono ?_;rintro e w4 ⟨rfl,hk4⟩;have aR:=yN (aB aL.o hk4);have hv:fk=yO:=by rw [TL.o,HI.o.h3 i hP hQ];rfl
   clear hk4;subst hv;go_wp2;go_ret2;exact⟨rfl,aR.o⟩
  | some k'=>
   refine (BA _ i k' P Q _ eA.o cY hQ).mono ?_;rintro e w4 ⟨rfl,hk4⟩;have aR:=yN (aB aL.o hk4);have jH:=yN ((kC.o k' hQ).kept hk4);clear hk4;go_wp2;go_roundg (13-(lvl+1));case measure=>omega
   exact⟨k',lvl+1,fs i,rfl,by congr 1,by omega,ye _,yN ⟨jH.o,TL.o.symm,pQ.o⟩,aR⟩
end
section
open Sip
attribute [local irreducible] five look
def wk (k0 k1 m:UInt64) (key:Key) (hash:Nat):Value:=yF #[yE yJ (nu k0),yE yJ (nu k1),yE yJ (nu m),yB yO,yA key,yE yJ hash]
theorem dF (w:World) (o p:Obj):((w.alloc o).alloc p).heap[w.heap.size]?=yP o∧((w.alloc o).alloc p).heap[w.heap.size+1]?=yP p∧Kept w ((w.alloc o).alloc p):=by
 have h1:=bM w o;have k2:Kept (w.alloc o) ((w.alloc o).alloc p):=(yk _ _).alloc (ye _) _;refine⟨(k2.block _ (yo.1 h1).1).trans h1,?_,aB (aZ _ _) k2⟩;have:=bM (w.alloc o) p
 rwa [show (w.alloc o).heap.size=w.heap.size+1 from by show (w.heap.push o).size=_;simp] at this
theorem GA (w:World) (o p q:Obj):(((w.alloc o).alloc p).alloc q).heap[w.heap.size]?=yP o∧(((w.alloc o).alloc p).alloc q).heap[w.heap.size+1]?=yP p∧(((w.alloc o).alloc p).alloc q).heap[w.heap.size+1+1]?=yP q∧Kept w (((w.alloc o).alloc p).alloc q):=by
 obtain⟨h1,h2,hk⟩:=dF w o p;have k2:Kept ((w.alloc o).alloc p) (((w.alloc o).alloc p).alloc q):=(yk _ _).alloc (ye _) _;refine⟨(k2.block _ (yo.1 h1).1).trans h1,(k2.block _ (yo.1 h2).1).trans h2,?_,aB hk k2⟩;have:=bM ((w.alloc o).alloc p) q
 rwa [show ((w.alloc o).alloc p).heap.size=w.heap.size+1+1 from by show ((w.heap.push o).push p).size=_;simp] at this
theorem aYR (p q:Pr):look (fL (fL [] p) q)=upd (aY p) q.1 (yP q.2):=by
 rw [J3 (A6 List.Pairwise.nil p),J3 List.Pairwise.nil p];rw [show look []=none_ from by unfold look;rfl,VB p.1 p.2]
theorem KW (h l:Nat) (w:World) (hh:h<18446744073709551616) (hl:l<13):Calls yM 253 #[yE yJ h,yE yH l] w fun e w'=>e = .returned (yE yH (five h l))∧w=w':=
 (aIW h l w hh hl).mono fun e w' h=>⟨h.1,h.2.symm⟩
theorem aYS (k0 k1 m:UInt64) (p q:Pr) (hp:p.1.size≤1000) (hq:q.1.size≤1000):∀ (d lvl:Nat) (w:World),lvl+d=13→
  Calls yM 297 #[wk k0 k1 m q.1 (bN k0 k1 m q.1),yF #[yA p.1,yA p.2],yF #[yA q.1,yA q.2],yE yH lvl] w fun e w'=>
   ∃ c,e = .returned (yB (yP ⟨c,0,yO⟩))∧CT (bN k0 k1 m) w' lvl c (upd (aY p) q.1 (yP q.2))∧Kept w w':=by
 intro d;induction d with
 | zero=>
  intro lvl w hl;obtain rfl:lvl=13:=by omega
  unfold wk;obtain⟨uQ,IB⟩:∃ x,x=bN k0 k1 m q.1:=⟨_,rfl⟩;rw [← IB];clear IB;go_enter func297,ntmps297;go_wp2_with fail;obtain⟨hA,hB,hC,bF⟩:=GA w (yL #[yE yJ (nu k0),yE yJ (nu k1),yE yJ (nu m),yB yO,yA q.1,yE yJ uQ] 323) (yL #[yA p.1,yA p.2] 52) (yL #[yA q.1,yA q.2] 52);have HC:=yN (yd hA (yd hB hC));have bG:=yN bF;clear hA hB hC bF;generalize ((w.alloc _).alloc _).alloc _=w0 at *;have HS:Hid ((fun W:World=>W.cell? ⟨w.heap.size,0,yO⟩=yP (yE yJ (nu k0))∧W.cell? ⟨w.heap.size,1,yO⟩=yP (yE yJ (nu k1))∧W.cell? ⟨w.heap.size,2,yO⟩=yP (yE yJ (nu m))∧W.cell? ⟨w.heap.size,3,yO⟩=yP (yB yO)∧W.cell? ⟨w.heap.size,4,yO⟩=yP (yA q.1)∧W.cell? ⟨w.heap.size,5,yO⟩=yP (yE yJ uQ)∧W.cell? ⟨w.heap.size+1,0,yO⟩=yP (yA p.1)∧W.cell? ⟨w.heap.size+1,1,yO⟩=yP (yA p.2)∧W.cell? ⟨w.heap.size+1+1,0,yO⟩=yP (yA q.1)∧W.cell? ⟨w.heap.size+1+1,1,yO⟩=yP (yA q.2)) w0.drew):=yN (⟨aG HC.o.1 rfl,aG HC.o.1 rfl,aG HC.o.1 rfl,aG HC.o.1 rfl,aG HC.o.1 rfl,aG HC.o.1 rfl,aG HC.o.2.1 rfl,aG HC.o.2.1 rfl,aG HC.o.2.2 rfl,aG HC.o.2.2 rfl⟩);have aP:Hid (Kept w w0.drew):=yN (ym bG.o);clear HC bG;refine IM (fun W:World=>W.cell? ⟨w.heap.size,0,yO⟩=yP (yE yJ (nu k0))∧W.cell? ⟨w.heap.size,1,yO⟩=yP (yE yJ (nu k1))∧W.cell? ⟨w.heap.size,2,yO⟩=yP (yE yJ (nu m))∧W.cell? ⟨w.heap.size,3,yO⟩=yP (yB yO)∧W.cell? ⟨w.heap.size,4,yO⟩=yP (yA q.1)∧W.cell? ⟨w.heap.size,5,yO⟩=yP (yE yJ uQ)∧W.cell? ⟨w.heap.size+1,0,yO⟩=yP (yA p.1)∧W.cell? ⟨w.heap.size+1,1,yO⟩=yP (yA p.2)∧W.cell? ⟨w.heap.size+1+1,0,yO⟩=yP (yA q.1)∧W.cell? ⟨w.heap.size+1+1,1,yO⟩=yP (yA q.2)) 9 10 ?_;generalize w0.drew=wd at *;refine tM 1 HS ?_;go_frame;refine tM 5 HS ?_;go_frame;refine lM 2 HS ?_;go_frame;refine lM 3 HS ?_;go_frame;refine lM 6 HS ?_;go_frame;refine lM 7 HS ?_;go_frame;refine oM 0 fun K hK=>?_;go_simp;refine (aE3 _).mono ?_;rintro e wa ⟨c1,rfl,hn,hk⟩;have aF:=yN (yd (hk.cell HS.o.1) (yd (hk.cell HS.o.2.1) (yd (hk.cell HS.o.2.2.1) (yd (hk.cell HS.o.2.2.2.1) (yd (hk.cell HS.o.2.2.2.2.1) (yd (hk.cell HS.o.2.2.2.2.2.1) (yd (hk.cell HS.o.2.2.2.2.2.2.1) (yd (hk.cell HS.o.2.2.2.2.2.2.2.1) (yd (hk.cell HS.o.2.2.2.2.2.2.2.2.1) (hk.cell HS.o.2.2.2.2.2.2.2.2.2))))))))));have sZ:=yN hn;have aJ:=yN (aB aP.o hk);refine hK _ _ (.inr aF.o) ?_;clear hK K HS hn hk aP;have HS:=aF;clear aF;refine oM 4 fun K hK=>?_;go_simp;refine (J9 c1 p [] _ sZ.o (by decide) List.Pairwise.nil).mono ?_;rintro e wb ⟨c2,rfl,hn,hk⟩;have aF:=yN (yd (hk.cell HS.o.1) (yd (hk.cell HS.o.2.1) (yd (hk.cell HS.o.2.2.1) (yd (hk.cell HS.o.2.2.2.1) (yd (hk.cell HS.o.2.2.2.2.1) (yd (hk.cell HS.o.2.2.2.2.2.1) (yd (hk.cell HS.o.2.2.2.2.2.2.1) (yd (hk.cell HS.o.2.2.2.2.2.2.2.1) (yd (hk.cell HS.o.2.2.2.2.2.2.2.2.1) (hk.cell HS.o.2.2.2.2.2.2.2.2.2))))))))));have dN:=yN hn;have aH:=yN (aB aJ.o hk);refine hK _ _ (.inr aF.o) ?_;clear hK K HS hn hk aJ sZ;have HS:=aF;clear aF;refine oM 8 fun K hK=>?_;go_simp;refine (J9 c2 q (fL [] p) _ dN.o (yf (aGY [] p) (by decide)) (A6 List.Pairwise.nil p)).mono ?_;rintro e wc ⟨c3,rfl,hn,hk⟩;have aF:=yN (yd (hk.cell HS.o.1) (yd (hk.cell HS.o.2.1) (yd (hk.cell HS.o.2.2.1) (yd (hk.cell HS.o.2.2.2.1) (yd (hk.cell HS.o.2.2.2.2.1) (yd (hk.cell HS.o.2.2.2.2.2.1) (yd (hk.cell HS.o.2.2.2.2.2.2.1) (yd (hk.cell HS.o.2.2.2.2.2.2.2.1) (yd (hk.cell HS.o.2.2.2.2.2.2.2.2.1) (hk.cell HS.o.2.2.2.2.2.2.2.2.2))))))))));have eA:=yN hn;have aL:=yN (aB aH.o hk);refine hK _ _ (.inr aF.o) ?_;clear hK K HS hn hk aH dN;have HS:=aF;clear aF;refine oM 9 fun K hK=>?_;go_simp;refine hK _ _ (.inl (by kernel_rfl)) ?_;clear hK K;refine uX (by kernel_rfl) ?_ _;go_wp2;go_ret;refine⟨c3,rfl,?_,aL.o⟩;rw [← aYR];exact .bucket c3 _ eA.o (A6 (A6 List.Pairwise.nil p) q)
 | succ d ih=>
  intro lvl w hl;have hlv:lvl<13:=by omega
  have hwr:yH.wrap ((lvl:Int)+1)=(lvl:Int)+1:=by rw [zk];omega
  have wF:∀ w,Calls yM 297 #[wk k0 k1 m q.1 (bN k0 k1 m q.1),yF #[yA p.1,yA p.2],yF #[yA q.1,yA q.2],yE yH ((lvl:Int)+1)] w fun e w'=>
    ∃ c,e = .returned (yB (yP ⟨c,0,yO⟩))∧CT (bN k0 k1 m) w' (lvl+1) c (upd (aY p) q.1 (yP q.2))∧Kept w w':=fun w=>by
   have:=ih (lvl+1) w (by omega);rw [Int.natCast_add] at this;exact this
  unfold wk at wF;clear ih;unfold wk;obtain⟨uQ,IB⟩:∃ x,x=bN k0 k1 m q.1:=⟨_,rfl⟩;have hlq:uQ<18446744073709551616:=by rw [IB];exact BI _ _ _ _
  obtain⟨hsp,iK⟩:∃ x,x=bN k0 k1 m p.1:=⟨_,rfl⟩;have qU:hsp<18446744073709551616:=by rw [iK];exact BI _ _ _ _
  obtain⟨i,hi⟩:∃ i,i=five hsp lvl:=⟨_,rfl⟩;obtain⟨j,hj⟩:∃ j,j=five uQ lvl:=⟨_,rfl⟩;have cY:i<32:=by rw [hi];exact uZ _ _
  have a8Q:j<32:=by rw [hj];exact uZ _ _
  rw [← IB] at wF ⊢;have n4:=yN wF;have HI:=yN (yd hi hj);have HP:=yN (yd iK IB);have NX:five (bN k0 k1 m p.1) lvl=i:=by rw [hi,iK]
  have OI:five (bN k0 k1 m q.1) lvl=j:=by rw [hj,IB]
  have HF:=yN (yd NX OI);clear wF hi hj IB iK NX OI;go_enter func297,ntmps297;go_wp2_with fail;obtain⟨hA,hB,hC,bF⟩:=GA w (yL #[yE yJ (nu k0),yE yJ (nu k1),yE yJ (nu m),yB yO,yA q.1,yE yJ uQ] 323) (yL #[yA p.1,yA p.2] 52) (yL #[yA q.1,yA q.2] 52);have HC:=yN (yd hA (yd hB hC));have bG:=yN bF;clear hA hB hC bF;generalize ((w.alloc _).alloc _).alloc _=w0 at *;have HS:Hid ((fun W:World=>W.cell? ⟨w.heap.size,0,yO⟩=yP (yE yJ (nu k0))∧W.cell? ⟨w.heap.size,1,yO⟩=yP (yE yJ (nu k1))∧W.cell? ⟨w.heap.size,2,yO⟩=yP (yE yJ (nu m))∧W.cell? ⟨w.heap.size,3,yO⟩=yP (yB yO)∧W.cell? ⟨w.heap.size,4,yO⟩=yP (yA q.1)∧W.cell? ⟨w.heap.size,5,yO⟩=yP (yE yJ uQ)∧W.cell? ⟨w.heap.size+1,0,yO⟩=yP (yA p.1)∧W.cell? ⟨w.heap.size+1,1,yO⟩=yP (yA p.2)∧W.cell? ⟨w.heap.size+1+1,0,yO⟩=yP (yA q.1)∧W.cell? ⟨w.heap.size+1+1,1,yO⟩=yP (yA q.2)) w0.drew):=yN (⟨aG HC.o.1 rfl,aG HC.o.1 rfl,aG HC.o.1 rfl,aG HC.o.1 rfl,aG HC.o.1 rfl,aG HC.o.1 rfl,aG HC.o.2.1 rfl,aG HC.o.2.1 rfl,aG HC.o.2.2 rfl,aG HC.o.2.2 rfl⟩);have aP:Hid (Kept w w0.drew):=yN (ym bG.o);clear HC bG;refine IM (fun W:World=>W.cell? ⟨w.heap.size,0,yO⟩=yP (yE yJ (nu k0))∧W.cell? ⟨w.heap.size,1,yO⟩=yP (yE yJ (nu k1))∧W.cell? ⟨w.heap.size,2,yO⟩=yP (yE yJ (nu m))∧W.cell? ⟨w.heap.size,3,yO⟩=yP (yB yO)∧W.cell? ⟨w.heap.size,4,yO⟩=yP (yA q.1)∧W.cell? ⟨w.heap.size,5,yO⟩=yP (yE yJ uQ)∧W.cell? ⟨w.heap.size+1,0,yO⟩=yP (yA p.1)∧W.cell? ⟨w.heap.size+1,1,yO⟩=yP (yA p.2)∧W.cell? ⟨w.heap.size+1+1,0,yO⟩=yP (yA q.1)∧W.cell? ⟨w.heap.size+1+1,1,yO⟩=yP (yA q.2)) 12 13 ?_;generalize w0.drew=wd at *;refine tM 0 HS ?_;go_frame;refine tM 2 HS ?_;go_frame;refine tM 5 HS ?_;go_frame;refine tM 7 HS ?_;go_frame;refine tM 9 HS ?_;go_frame;refine lM 1 HS ?_;go_frame;refine lM 3 HS ?_;go_frame;refine lM 8 HS ?_;go_frame;refine oM 4 fun K hK=>?_;go_simp;refine (GJ k0 k1 m p.1 _ hp).mono ?_;rintro e wa ⟨rfl,hk⟩;have aF:=yN (yd (hk.cell HS.o.1) (yd (hk.cell HS.o.2.1) (yd (hk.cell HS.o.2.2.1) (yd (hk.cell HS.o.2.2.2.1) (yd (hk.cell HS.o.2.2.2.2.1) (yd (hk.cell HS.o.2.2.2.2.2.1) (yd (hk.cell HS.o.2.2.2.2.2.2.1) (yd (hk.cell HS.o.2.2.2.2.2.2.2.1) (yd (hk.cell HS.o.2.2.2.2.2.2.2.2.1) (hk.cell HS.o.2.2.2.2.2.2.2.2.2))))))))));rw [← HP.o.1];have aJ:=yN (aB aP.o hk);refine hK _ _ (.inr aF.o) ?_;clear hK K HS hk aP;have HS:=aF;clear aF;refine oM 6 fun K hK=>?_;go_simp;refine (KW hsp lvl _ qU hlv).mono ?_;rintro e w' ⟨rfl,rfl⟩;rw [← HI.o.1];refine hK _ _ (.inr HS.o) ?_;clear hK K;refine oM 10 fun K hK=>?_;go_simp;refine (KW uQ lvl _ hlq hlv).mono ?_;rintro e w' ⟨rfl,rfl⟩;rw [← HI.o.2];refine hK _ _ (.inr HS.o) ?_;clear hK K;refine oM 11 fun K hK=>?_;go_simp;refine hK _ _ (.inr HS.o) ?_;clear hK K;refine oM 12 fun K hK=>?_;go_simp;refine hK _ _ (.inl (by kernel_rfl)) ?_;clear hK K;refine uX (by kernel_rfl) ?_ _;by_cases gX:i=j
  ·subst gX;go_wp2_with fail;have OJ:Hid ((fun W:World=>W.cell? ⟨w.heap.size,0,yO⟩=yP (yE yJ (nu k0))∧W.cell? ⟨w.heap.size,1,yO⟩=yP (yE yJ (nu k1))∧W.cell? ⟨w.heap.size,2,yO⟩=yP (yE yJ (nu m))∧W.cell? ⟨w.heap.size,3,yO⟩=yP (yB yO)∧W.cell? ⟨w.heap.size,4,yO⟩=yP (yA q.1)∧W.cell? ⟨w.heap.size,5,yO⟩=yP (yE yJ uQ)∧W.cell? ⟨w.heap.size+1,0,yO⟩=yP (yA p.1)∧W.cell? ⟨w.heap.size+1,1,yO⟩=yP (yA p.2)∧W.cell? ⟨w.heap.size+1+1,0,yO⟩=yP (yA q.1)∧W.cell? ⟨w.heap.size+1+1,1,yO⟩=yP (yA q.2)) wa.drew):=yN (HS.o);have lZ:Hid (Kept w wa.drew):=yN (ym aJ.o);clear HS aJ;have HS:=OJ;clear OJ;refine JP (fun W:World=>W.cell? ⟨w.heap.size,0,yO⟩=yP (yE yJ (nu k0))∧W.cell? ⟨w.heap.size,1,yO⟩=yP (yE yJ (nu k1))∧W.cell? ⟨w.heap.size,2,yO⟩=yP (yE yJ (nu m))∧W.cell? ⟨w.heap.size,3,yO⟩=yP (yB yO)∧W.cell? ⟨w.heap.size,4,yO⟩=yP (yA q.1)∧W.cell? ⟨w.heap.size,5,yO⟩=yP (yE yJ uQ)∧W.cell? ⟨w.heap.size+1,0,yO⟩=yP (yA p.1)∧W.cell? ⟨w.heap.size+1,1,yO⟩=yP (yA p.2)∧W.cell? ⟨w.heap.size+1+1,0,yO⟩=yP (yA q.1)∧W.cell? ⟨w.heap.size+1+1,1,yO⟩=yP (yA q.2)) 11 12 (by kernel_rfl) (by kernel_rfl) ?_;generalize wa.drew=we at *;refine tM 1 HS ?_;go_frame;refine tM 3 HS ?_;go_frame;refine tM 7 HS ?_;go_frame;refine tM 8 HS ?_;go_frame;refine lM 2 HS ?_;go_frame;refine lM 4 HS ?_;go_frame;refine lM 5 HS ?_;go_frame;refine lM 6 HS ?_;go_frame;refine oM 0 fun K hK=>?_;go_simp;refine (JV _).mono ?_;rintro e wf ⟨c1,rfl,hn,hk⟩;have aF:=yN (yd (hk.cell HS.o.1) (yd (hk.cell HS.o.2.1) (yd (hk.cell HS.o.2.2.1) (yd (hk.cell HS.o.2.2.2.1) (yd (hk.cell HS.o.2.2.2.2.1) (yd (hk.cell HS.o.2.2.2.2.2.1) (yd (hk.cell HS.o.2.2.2.2.2.2.1) (yd (hk.cell HS.o.2.2.2.2.2.2.2.1) (yd (hk.cell HS.o.2.2.2.2.2.2.2.2.1) (hk.cell HS.o.2.2.2.2.2.2.2.2.2))))))))));have sZ:=yN hn;have aH:=yN (aB lZ.o hk);refine hK _ _ (.inr aF.o) ?_;clear hK K HS hn hk lZ;have HS:=aF;clear aF;refine oM 9 fun K hK=>?_;go_simp;refine (n4.o _).mono ?_;rintro e wg ⟨c2,rfl,hn,hk⟩;have aF:=yN (yd (hk.cell HS.o.1) (yd (hk.cell HS.o.2.1) (yd (hk.cell HS.o.2.2.1) (yd (hk.cell HS.o.2.2.2.1) (yd (hk.cell HS.o.2.2.2.2.1) (yd (hk.cell HS.o.2.2.2.2.2.1) (yd (hk.cell HS.o.2.2.2.2.2.2.1) (yd (hk.cell HS.o.2.2.2.2.2.2.2.1) (yd (hk.cell HS.o.2.2.2.2.2.2.2.2.1) (hk.cell HS.o.2.2.2.2.2.2.2.2.2))))))))));have dN:=yN hn;have R8:=yN (sZ.o.kept hk);have aL:=yN (aB aH.o hk);refine hK _ _ (.inr aF.o) ?_;clear hK K HS hn hk aH sZ;have HS:=aF;clear aF;refine oM 10 fun K hK=>?_;go_simp;refine (FZ c1 i c2 _ _ _ R8.o (fun _ _ h=>by cases h) cY).mono ?_;rintro e wh ⟨c3,rfl,hn,hk⟩;have aF:=yN (yd (hk.cell HS.o.1) (yd (hk.cell HS.o.2.1) (yd (hk.cell HS.o.2.2.1) (yd (hk.cell HS.o.2.2.2.1) (yd (hk.cell HS.o.2.2.2.2.1) (yd (hk.cell HS.o.2.2.2.2.2.1) (yd (hk.cell HS.o.2.2.2.2.2.2.1) (yd (hk.cell HS.o.2.2.2.2.2.2.2.1) (yd (hk.cell HS.o.2.2.2.2.2.2.2.2.1) (hk.cell HS.o.2.2.2.2.2.2.2.2.2))))))))));have eA:=yN hn;have ZT:=yN (dN.o.kept hk);have aR:=yN (aB aL.o hk);refine hK _ _ (.inr aF.o) ?_;have ZU:=yN (R8.o.kept hk);clear hK K HS hn hk aL dN R8;have HS:=aF;clear aF;refine oM 11 fun K hK=>?_;go_simp;refine hK _ _ (.inl (by kernel_rfl)) ?_;clear hK K;refine uX (by kernel_rfl) ?_ _;go_wp2;go_ret;refine⟨c3,rfl,?_,aR.o⟩;have hg:∀ k v,upd (aY p) q.1 (yP q.2) k=yP v→five (bN k0 k1 m k) lvl=i:=fun k v hk=>by
    by_cases e:k=q.1;·rw [e];exact HF.o.2
    rw [kH _ _ e] at hk;by_cases e':k=p.1;·rw [e'];exact HF.o.1
    rw [GU p e'] at hk;cases hk
   have SG:=(WQ (bN k0 k1 m) wh lvl c1 hlv (ZU.o)).put (i:=i) (po:=yO) (qo:=yP c2) eA.o (upd (aY p) q.1 (yP q.2)) (.inr (.inl ⟨c2,rfl,rfl,ZT.o⟩)) hg;have:=SG.ct;rw [aGV _ _ _ _ hg] at this;exact this
  have bHG:¬ ((i:Int)=(j:Int)):=by omega
  go_wp2_with fail;have OJ:Hid ((fun W:World=>W.cell? ⟨w.heap.size,0,yO⟩=yP (yE yJ (nu k0))∧W.cell? ⟨w.heap.size,1,yO⟩=yP (yE yJ (nu k1))∧W.cell? ⟨w.heap.size,2,yO⟩=yP (yE yJ (nu m))∧W.cell? ⟨w.heap.size,3,yO⟩=yP (yB yO)∧W.cell? ⟨w.heap.size,4,yO⟩=yP (yA q.1)∧W.cell? ⟨w.heap.size,5,yO⟩=yP (yE yJ uQ)∧W.cell? ⟨w.heap.size+1,0,yO⟩=yP (yA p.1)∧W.cell? ⟨w.heap.size+1,1,yO⟩=yP (yA p.2)∧W.cell? ⟨w.heap.size+1+1,0,yO⟩=yP (yA q.1)∧W.cell? ⟨w.heap.size+1+1,1,yO⟩=yP (yA q.2)) wa.drew):=yN (HS.o);have lZ:Hid (Kept w wa.drew):=yN (ym aJ.o);clear HS aJ;have HS:=OJ;clear OJ;refine JP (fun W:World=>W.cell? ⟨w.heap.size,0,yO⟩=yP (yE yJ (nu k0))∧W.cell? ⟨w.heap.size,1,yO⟩=yP (yE yJ (nu k1))∧W.cell? ⟨w.heap.size,2,yO⟩=yP (yE yJ (nu m))∧W.cell? ⟨w.heap.size,3,yO⟩=yP (yB yO)∧W.cell? ⟨w.heap.size,4,yO⟩=yP (yA q.1)∧W.cell? ⟨w.heap.size,5,yO⟩=yP (yE yJ uQ)∧W.cell? ⟨w.heap.size+1,0,yO⟩=yP (yA p.1)∧W.cell? ⟨w.heap.size+1,1,yO⟩=yP (yA p.2)∧W.cell? ⟨w.heap.size+1+1,0,yO⟩=yP (yA q.1)∧W.cell? ⟨w.heap.size+1+1,1,yO⟩=yP (yA q.2)) 11 12 (by kernel_rfl) (by kernel_rfl) ?_;generalize wa.drew=we at *;refine tM 1 HS ?_;go_frame;refine tM 3 HS ?_;go_frame;refine tM 6 HS ?_;go_frame;refine tM 8 HS ?_;go_frame;refine lM 2 HS ?_;go_frame;refine lM 4 HS ?_;go_frame;refine lM 7 HS ?_;go_frame;refine lM 9 HS ?_;go_frame;refine oM 0 fun K hK=>?_;go_simp;refine (JV _).mono ?_;rintro e wf ⟨c1,rfl,hn,hk⟩;have aF:=yN (yd (hk.cell HS.o.1) (yd (hk.cell HS.o.2.1) (yd (hk.cell HS.o.2.2.1) (yd (hk.cell HS.o.2.2.2.1) (yd (hk.cell HS.o.2.2.2.2.1) (yd (hk.cell HS.o.2.2.2.2.2.1) (yd (hk.cell HS.o.2.2.2.2.2.2.1) (yd (hk.cell HS.o.2.2.2.2.2.2.2.1) (yd (hk.cell HS.o.2.2.2.2.2.2.2.2.1) (hk.cell HS.o.2.2.2.2.2.2.2.2.2))))))))));have sZ:=yN hn;have aH:=yN (aB lZ.o hk);refine hK _ _ (.inr aF.o) ?_;clear hK K HS hn hk lZ;have HS:=aF;clear aF;refine oM 5 fun K hK=>?_;go_simp;refine (CX c1 i p _ _ _ sZ.o (fun _ _ h=>by cases h) cY).mono ?_;rintro e wg ⟨c2,rfl,hn,hk⟩;have aF:=yN (yd (hk.cell HS.o.1) (yd (hk.cell HS.o.2.1) (yd (hk.cell HS.o.2.2.1) (yd (hk.cell HS.o.2.2.2.1) (yd (hk.cell HS.o.2.2.2.2.1) (yd (hk.cell HS.o.2.2.2.2.2.1) (yd (hk.cell HS.o.2.2.2.2.2.2.1) (yd (hk.cell HS.o.2.2.2.2.2.2.2.1) (yd (hk.cell HS.o.2.2.2.2.2.2.2.2.1) (hk.cell HS.o.2.2.2.2.2.2.2.2.2))))))))));have dN:=yN hn;have R8:=yN (sZ.o.kept hk);have aL:=yN (aB aH.o hk);refine hK _ _ (.inr aF.o) ?_;clear hK K HS hn hk aH sZ;have HS:=aF;clear aF;refine oM 10 fun K hK=>?_;go_simp;refine (CX c2 j q _ _ _ dN.o (WO (fun _ _ h=>by cases h) i _ _ (.inr rfl)) a8Q).mono ?_;rintro e wh ⟨c3,rfl,hn,hk⟩;have aF:=yN (yd (hk.cell HS.o.1) (yd (hk.cell HS.o.2.1) (yd (hk.cell HS.o.2.2.1) (yd (hk.cell HS.o.2.2.2.1) (yd (hk.cell HS.o.2.2.2.2.1) (yd (hk.cell HS.o.2.2.2.2.2.1) (yd (hk.cell HS.o.2.2.2.2.2.2.1) (yd (hk.cell HS.o.2.2.2.2.2.2.2.1) (yd (hk.cell HS.o.2.2.2.2.2.2.2.2.1) (hk.cell HS.o.2.2.2.2.2.2.2.2.2))))))))));have eA:=yN hn;have ZT:=yN (dN.o.kept hk);have ZU:=yN (R8.o.kept hk);have aR:=yN (aB aL.o hk);refine hK _ _ (.inr aF.o) ?_;clear hK K HS hn hk aL dN R8;have HS:=aF;clear aF;refine oM 11 fun K hK=>?_;go_simp;refine hK _ _ (.inl (by kernel_rfl)) ?_;clear hK K;refine uX (by kernel_rfl) ?_ _;go_wp2;go_ret;refine⟨c3,rfl,?_,aR.o⟩;have hgp:∀ k v,aY p k=yP v→five (bN k0 k1 m k) lvl=i:=fun k v hk=>by
   by_cases e':k=p.1;·rw [e'];exact HF.o.1
   rw [GU p e'] at hk;cases hk
  have hgq:∀ k v,aY q k=yP v→five (bN k0 k1 m k) lvl=j:=fun k v hk=>by
   by_cases e':k=q.1;·rw [e'];exact HF.o.2
   rw [GU q e'] at hk;cases hk
  have hc1:=(WQ (bN k0 k1 m) wh lvl c1 hlv ZU.o).put (i:=i) (po:=yP p) (qo:=yO) ZT.o (aY p) (.inl ⟨p,rfl,rfl,rfl⟩) hgp;have hc2:=hc1.put (i:=j) (po:=yP q) (qo:=yO) eA.o (aY q) (.inl ⟨q,rfl,rfl,rfl⟩) hgq;have dK:=hc2.ct;have e1:(fun x=>if x=j then aY q else if x=i then aY p else none_)=(fun x=>if x=five (bN k0 k1 m q.1) lvl then upd (if five (bN k0 k1 m q.1) lvl=i then aY p else none_) q.1 (yP q.2) else if x=i then aY p else none_):=by
   rw [HF.o.2];funext x;by_cases e:x=j
   ·rw [if_pos e,if_pos e];show aY q=upd (if j=i then aY p else none_) q.1 (yP q.2);rw [if_neg (fun e=>gX e.symm)];exact (VB q.1 q.2).symm
   rw [if_neg e,if_neg e]
  have e2:=aGU (bN k0 k1 m) lvl (fun x=>if x=i then aY p else none_) q.1 (yP q.2);rw [e1,e2,aGV _ _ _ _ hgp] at dK;exact dK
end
section
open Sip
attribute [local irreducible] five look
theorem C9 {hs:Key→Nat} {w:World} {lvl b:Nat} {P:Nat→Option Pr} {Q:Nat→Option Nat} {fs:Nat→Mp} (h:CI hs w lvl b P Q fs) {b' i:Nat} {key:Key} {v:Option Key} {po:Option Pr} {qo:Option Nat} (hi:five (hs key) lvl=i)
  (h0:NS w b' (put P i po) (put Q i qo)) (hg:(∃ p,po=yP p∧qo=yO∧upd (fs i) key v=aY p)∨(∃ k,po=yO∧qo=yP k∧CT hs w (lvl+1) k (upd (fs i) key v))∨(po=yO∧qo=yO∧upd (fs i) key v=none_)):CT hs w lvl b' (upd (join hs lvl fs) key v):=by
 subst hi
 have:=(h.put h0 (upd (fs (five (hs key) lvl)) key v) hg (fun k u hu=>by
  by_cases e:k=key;·rw [e]
  rw [kH _ _ e] at hu;exact h.h4 _ k u hu)).ct
 rw [aGU] at this;exact this
def vH (hs:Key→Nat) (lvl b:Nat) (f:Mp) (p:Pr) (w:World) (e:Ending) (w':World):Prop:=
 ∃ c a ch,e = .returned (.tuple #[yB (yP ⟨c,0,yO⟩),yD a,yD ch])∧CT hs w' lvl c (upd f p.1 (yP p.2))∧Kept w w'∧(ch=false→c=b∧f p.1=yP p.2)
theorem aVJ (k0 k1 m:UInt64) (p:Pr) (hp:p.1.size≤1000):∀ (d lvl b:Nat) (f:Mp) (w:World),lvl+d=13→CT (bN k0 k1 m) w lvl b f→aM f 1000→
  Calls yM 229 #[wk k0 k1 m p.1 (bN k0 k1 m p.1),yB (yP ⟨b,0,yO⟩),yF #[yA p.1,yA p.2],yE yH lvl] w (vH (bN k0 k1 m) lvl b f p w):=by
 intro d;induction d with
 | zero=>
  intro lvl b f w hl h mJ;obtain rfl:lvl=13:=by omega
  unfold wk;obtain⟨hsp,iK⟩:∃ x,x=bN k0 k1 m p.1:=⟨_,rfl⟩;have qU:hsp<18446744073709551616:=by rw [iK];exact BI _ _ _ _
  rw [← iK];have HP:=yN iK;clear iK;rcases h.ci with ⟨_,l,aO,hr,e⟩ | ⟨P,Q,fs,ci,e⟩
  case inr=>exact absurd ci.hl (by decide)
  subst e;have HL:=yN (show l.length≤1000 from (tP hr).few mJ);have HR:=yN hr;clear h mJ hr;obtain⟨lk,hlk⟩:∃ lk,lk=look l p.1:=⟨_,rfl⟩;have uP:=yN hlk;clear hlk;go_enter func229,ntmps229;go_wp2_with fail;obtain⟨hA,hB,hk⟩:=dF w (yL #[yE yJ (nu k0),yE yJ (nu k1),yE yJ (nu m),yB yO,yA p.1,yE yJ hsp] 323) (yL #[yA p.1,yA p.2] 52);have HS:Hid ((fun W:World=>W.cell? ⟨w.heap.size,0,yO⟩=yP (yE yJ (nu k0))∧W.cell? ⟨w.heap.size,1,yO⟩=yP (yE yJ (nu k1))∧W.cell? ⟨w.heap.size,2,yO⟩=yP (yE yJ (nu m))∧W.cell? ⟨w.heap.size,3,yO⟩=yP (yB yO)∧W.cell? ⟨w.heap.size,4,yO⟩=yP (yA p.1)∧W.cell? ⟨w.heap.size,5,yO⟩=yP (yE yJ hsp)∧W.cell? ⟨w.heap.size+1,0,yO⟩=yP (yA p.1)∧W.cell? ⟨w.heap.size+1,1,yO⟩=yP (yA p.2)) ((w.alloc (yL #[yE yJ (nu k0),yE yJ (nu k1),yE yJ (nu m),yB yO,yA p.1,yE yJ hsp] 323)).alloc (yL #[yA p.1,yA p.2] 52))):=yN ⟨aG hA rfl,aG hA rfl,aG hA rfl,aG hA rfl,aG hA rfl,aG hA rfl,aG hB rfl,aG hB rfl⟩;have HN:=yN (aO.kept hk);have HK:=yN hk;clear hA hB hk aO;generalize (w.alloc _).alloc _=w0 at *;obtain⟨s0,s1,s2,s3,s4,s5,s6,s7⟩:=id HS.o;have h0:=HN.o.choose_spec.choose_spec.1;refine (xA _ _ _ _ _ _ _ h0).mono ?_;rintro e w' ⟨rfl,rfl⟩;clear h0;go_wp2_with fail;refine (XQ b p.1 l _ HN.o (yf HL.o (by decide)) HR.o).mono ?_;rintro e w1 ⟨rfl,hk⟩;rw [← uP.o];have sZ:=yN (HN.o.kept hk);have aJ:=yN (aB HK.o hk);have aF:=yN (yd (hk.cell HS.o.1) (yd (hk.cell HS.o.2.1) (yd (hk.cell HS.o.2.2.1) (yd (hk.cell HS.o.2.2.2.1) (yd (hk.cell HS.o.2.2.2.2.1) (yd (hk.cell HS.o.2.2.2.2.2.1) (yd (hk.cell HS.o.2.2.2.2.2.2.1) (hk.cell HS.o.2.2.2.2.2.2.2))))))));clear HS s0 s1 s2 s3 s4 s5 s6 s7;have HS:=aF;clear aF;obtain⟨s0,s1,s2,s3,s4,s5,s6,s7⟩:=id HS.o;clear hk HN HK;cases lk with
  | none=>
   go_wp2_with fail;refine (J9 b p l _ sZ.o (yf HL.o (by decide)) HR.o).mono ?_;rintro e w2 ⟨c,rfl,hn,hk⟩;have dN:=yN hn;have aH:=yN (aB aJ.o hk);clear hn hk s0 s1 s2 s3 s4 s5 s6 s7;go_wp2;go_ret3;unfold vH;refine⟨c,_,_,rfl,?_,aH.o,fun e=>by cases e⟩;rw [← J3 HR.o];exact .bucket c _ dN.o (A6 HR.o p)
  | some v=>
   have h2:=qJ v p.2;by_cases hv:v=p.2
   ·rw [decide_eq_true hv] at h2;have HV:=yN hv;clear hv;go_wp2_with fail;go_ret3;unfold vH;refine⟨b,_,_,rfl,?_,aJ.o,fun _=>⟨rfl,by rw [← uP.o,HV.o]⟩⟩;rw [qG _ _ _ (by rw [← uP.o,HV.o])];exact .bucket b l sZ.o HR.o
   rw [decide_eq_false hv] at h2;clear hv;go_wp2_with fail;refine (J9 b p l _ sZ.o (yf HL.o (by decide)) HR.o).mono ?_;rintro e w2 ⟨c,rfl,hn,hk⟩;have dN:=yN hn;have aH:=yN (aB aJ.o hk);clear hn hk s0 s1 s2 s3 s4 s5 s6 s7;go_wp2;go_ret3;unfold vH;refine⟨c,_,_,rfl,?_,aH.o,fun e=>by cases e⟩;rw [← J3 HR.o];exact .bucket c _ dN.o (A6 HR.o p)
 | succ d ih=>
  intro lvl b f w hl h mJ;have hlv:lvl<13:=by omega
  have hwr:yH.wrap ((lvl:Int)+1)=(lvl:Int)+1:=by rw [zk];omega
  have wF:∀ b f w,CT (bN k0 k1 m) w (lvl+1) b f→aM f 1000→Calls yM 229 #[wk k0 k1 m p.1 (bN k0 k1 m p.1),yB (yP ⟨b,0,yO⟩),yF #[yA p.1,yA p.2],yE yH ((lvl:Int)+1)] w (vH (bN k0 k1 m) (lvl+1) b f p w):=fun b f w hc hf=>by
   have:=ih (lvl+1) b f w (by omega) hc hf;rw [Int.natCast_add] at this;exact this
  have hbo:∀ q:Pr,q.1.size≤1000→∀ w,Calls yM 297 #[wk k0 k1 m p.1 (bN k0 k1 m p.1),yF #[yA q.1,yA q.2],yF #[yA p.1,yA p.2],yE yH ((lvl:Int)+1)] w fun e w'=>
    ∃ c,e = .returned (yB (yP ⟨c,0,yO⟩))∧CT (bN k0 k1 m) w' (lvl+1) c (upd (aY q) p.1 (yP p.2))∧Kept w w':=fun q hq w=>by
   have:=aYS k0 k1 m q p hq hp d (lvl+1) w (by omega);rw [Int.natCast_add] at this;exact this
  unfold wk at wF hbo;clear ih;unfold wk;obtain⟨hsp,iK⟩:∃ x,x=bN k0 k1 m p.1:=⟨_,rfl⟩;have qU:hsp<18446744073709551616:=by rw [iK];exact BI _ _ _ _
  rw [← iK] at wF hbo ⊢;have HP:=yN iK;clear iK;have n4:=yN wF;have HBO:=yN hbo;clear wF hbo;rcases h.ci with ⟨e,_⟩ | ⟨P,Q,fs,ci,e⟩
  case inl=>omega
  subst e;obtain⟨i,hi⟩:∃ i,i=five hsp lvl:=⟨_,rfl⟩;have cY:i<32:=by rw [hi];exact uZ _ _
  have HI:=yN hi;have S8:five (bN k0 k1 m p.1) lvl=i:=by rw [← HP.o,hi]
  have pQ:=yN S8;have MC:=yN (ci.few mJ i);clear h mJ hi S8;go_enter func229,ntmps229;go_wp2_with fail;obtain⟨hA,hB,hk⟩:=dF w (yL #[yE yJ (nu k0),yE yJ (nu k1),yE yJ (nu m),yB yO,yA p.1,yE yJ hsp] 323) (yL #[yA p.1,yA p.2] 52);have HS:Hid ((fun W:World=>W.cell? ⟨w.heap.size,0,yO⟩=yP (yE yJ (nu k0))∧W.cell? ⟨w.heap.size,1,yO⟩=yP (yE yJ (nu k1))∧W.cell? ⟨w.heap.size,2,yO⟩=yP (yE yJ (nu m))∧W.cell? ⟨w.heap.size,3,yO⟩=yP (yB yO)∧W.cell? ⟨w.heap.size,4,yO⟩=yP (yA p.1)∧W.cell? ⟨w.heap.size,5,yO⟩=yP (yE yJ hsp)∧W.cell? ⟨w.heap.size+1,0,yO⟩=yP (yA p.1)∧W.cell? ⟨w.heap.size+1,1,yO⟩=yP (yA p.2)) ((w.alloc (yL #[yE yJ (nu k0),yE yJ (nu k1),yE yJ (nu m),yB yO,yA p.1,yE yJ hsp] 323)).alloc (yL #[yA p.1,yA p.2] 52))):=yN ⟨aG hA rfl,aG hA rfl,aG hA rfl,aG hA rfl,aG hA rfl,aG hA rfl,aG hB rfl,aG hB rfl⟩;have HC:=yN (ci.kept hk);have HK:=yN hk;clear hA hB hk ci;generalize (w.alloc _).alloc _=w0 at *;obtain⟨s0,s1,s2,s3,s4,s5,s6,s7⟩:=id HS.o;obtain⟨_,_,_,_,h0⟩:=HC.o.h0.na;refine (xA _ _ _ _ _ _ _ h0).mono ?_;rintro e w' ⟨rfl,rfl⟩;clear h0;go_wp2_with fail;refine (KW hsp lvl _ qU hlv).mono ?_;rintro e w' ⟨rfl,rfl⟩;rw [← HI.o];go_wp2_with fail;cases hP:P i with
  | some q=>
   have zE:=(HC.o.h1 i q hP).2;have HQ:=yN (HC.o.h1 i q hP).1;have BW:=yN zE
   have HQS:=yN (show q.1.size≤1000 from by
    obtain⟨ks,_,h2⟩:=MC.o;have:=(h2 q.1 q.2 (by rw [zE];exact DK q)).2.1;omega)
   clear zE;refine (QZ b i q P Q _ HC.o.h0 cY hP).mono ?_;rintro e w1 ⟨rfl,hk⟩;have aA:Kept w1 (w1.alloc (yL #[yA q.1,yA q.2] 52)):=(yk _ _).alloc (ye _) _;have dJ:=aB hk aA;have gL:=yN (HC.o.kept dJ);have aJ:=yN (aB HK.o dJ);have aF:Hid ((fun W:World=>W.cell? ⟨w.heap.size,0,yO⟩=yP (yE yJ (nu k0))∧W.cell? ⟨w.heap.size,1,yO⟩=yP (yE yJ (nu k1))∧W.cell? ⟨w.heap.size,2,yO⟩=yP (yE yJ (nu m))∧W.cell? ⟨w.heap.size,3,yO⟩=yP (yB yO)∧W.cell? ⟨w.heap.size,4,yO⟩=yP (yA p.1)∧W.cell? ⟨w.heap.size,5,yO⟩=yP (yE yJ hsp)∧W.cell? ⟨w.heap.size+1,0,yO⟩=yP (yA p.1)∧W.cell? ⟨w.heap.size+1,1,yO⟩=yP (yA p.2)) (w1.alloc (yL #[yA q.1,yA q.2] 52))):=yN (⟨dJ.cell HS.o.1,dJ.cell HS.o.2.1,dJ.cell HS.o.2.2.1,dJ.cell HS.o.2.2.2.1,dJ.cell HS.o.2.2.2.2.1,dJ.cell HS.o.2.2.2.2.2.1,dJ.cell HS.o.2.2.2.2.2.2.1,dJ.cell HS.o.2.2.2.2.2.2.2⟩);clear HS s0 s1 s2 s3 s4 s5 s6 s7;have HS:=aF;clear aF;obtain⟨s0,s1,s2,s3,s4,s5,s6,s7⟩:=id HS.o;clear hk dJ aA HC HK;have h1:=qJ q.1 p.1;have h2:=qJ q.2 p.2;by_cases lR:q.1=p.1
   ·rw [decide_eq_true lR] at h1;by_cases hv2:q.2=p.2
    ·rw [decide_eq_true hv2] at h2;have HV:=yN (yd lR hv2);clear lR hv2;go_wp2_with fail;go_ret3;unfold vH;have hj:join (bN k0 k1 m) lvl fs p.1=yP p.2:=by rw [BC,pQ.o,BW.o,← HV.o.1,DK,HV.o.2]
     refine⟨b,_,_,rfl,?_,aJ.o,fun _=>⟨rfl,hj⟩⟩;rw [qG _ _ _ hj];exact gL.o.ct
    rw [decide_eq_false hv2] at h2;have HV:=yN lR;clear lR hv2;go_wp2_with fail;refine (CX b i p P Q _ gL.o.h0 gL.o.dis cY).mono ?_;rintro e w2 ⟨c,rfl,hn,hk⟩;have dN:=yN hn;have bK:=yN (gL.o.kept hk);have aH:=yN (aB aJ.o hk);clear hn hk s0 s1 s2 s3 s4 s5 s6 s7;go_wp2;go_ret3;unfold vH;refine⟨c,_,_,rfl,C9 bK.o pQ.o dN.o (.inl ⟨p,rfl,rfl,?_⟩),aH.o,fun e=>by cases e⟩;rw [BW.o,← HV.o,aZ6,HV.o]
   rw [decide_eq_false lR] at h1;clear lR;go_wp2_with fail;have rW:=bM w1 (yL #[yA q.1,yA q.2] 52);have OJ:Hid ((fun W:World=>W.cell? ⟨w.heap.size,0,yO⟩=yP (yE yJ (nu k0))∧W.cell? ⟨w.heap.size,1,yO⟩=yP (yE yJ (nu k1))∧W.cell? ⟨w.heap.size,2,yO⟩=yP (yE yJ (nu m))∧W.cell? ⟨w.heap.size,3,yO⟩=yP (yB yO)∧W.cell? ⟨w.heap.size,4,yO⟩=yP (yA p.1)∧W.cell? ⟨w.heap.size,5,yO⟩=yP (yE yJ hsp)∧W.cell? ⟨w.heap.size+1,0,yO⟩=yP (yA p.1)∧W.cell? ⟨w.heap.size+1,1,yO⟩=yP (yA p.2)∧W.cell? ⟨w1.heap.size,0,yO⟩=yP (yA q.1)∧W.cell? ⟨w1.heap.size,1,yO⟩=yP (yA q.2)) (w1.alloc (yL #[yA q.1,yA q.2] 52)).drew):=yN (⟨s0,s1,s2,s3,s4,s5,s6,s7,aG rW rfl,aG rW rfl⟩);have aP:Hid (Kept w (w1.alloc (yL #[yA q.1,yA q.2] 52)).drew):=yN (ym aJ.o);have HCd:Hid (CI (bN k0 k1 m) (w1.alloc (yL #[yA q.1,yA q.2] 52)).drew lvl b P Q fs):=yN (gL.o.kept (ym (yk _ _)));clear HS aJ gL rW s0 s1 s2 s3 s4 s5 s6 s7;have HS:=OJ;clear OJ;refine JP (fun W:World=>W.cell? ⟨w.heap.size,0,yO⟩=yP (yE yJ (nu k0))∧W.cell? ⟨w.heap.size,1,yO⟩=yP (yE yJ (nu k1))∧W.cell? ⟨w.heap.size,2,yO⟩=yP (yE yJ (nu m))∧W.cell? ⟨w.heap.size,3,yO⟩=yP (yB yO)∧W.cell? ⟨w.heap.size,4,yO⟩=yP (yA p.1)∧W.cell? ⟨w.heap.size,5,yO⟩=yP (yE yJ hsp)∧W.cell? ⟨w.heap.size+1,0,yO⟩=yP (yA p.1)∧W.cell? ⟨w.heap.size+1,1,yO⟩=yP (yA p.2)∧W.cell? ⟨w1.heap.size,0,yO⟩=yP (yA q.1)∧W.cell? ⟨w1.heap.size,1,yO⟩=yP (yA q.2)) 13 14 (by kernel_rfl) (by kernel_rfl) ?_;generalize (w1.alloc _).drew=wd at *;refine tM 0 HS ?_;go_frame;refine tM 1 HS ?_;go_frame;refine tM 3 HS ?_;go_frame;refine tM 7 HS ?_;go_frame;refine tM 8 HS ?_;go_frame;refine lM 2 HS ?_;go_frame;refine lM 4 HS ?_;go_frame;refine lM 5 HS ?_;go_frame;refine lM 6 HS ?_;go_frame;refine oM 9 fun K hK=>?_;go_simp;refine (HBO.o q HQS.o _).mono ?_;rintro e we ⟨c1,rfl,dK,hk⟩;have aF:=yN (yd (hk.cell HS.o.1) (yd (hk.cell HS.o.2.1) (yd (hk.cell HS.o.2.2.1) (yd (hk.cell HS.o.2.2.2.1) (yd (hk.cell HS.o.2.2.2.2.1) (yd (hk.cell HS.o.2.2.2.2.2.1) (yd (hk.cell HS.o.2.2.2.2.2.2.1) (yd (hk.cell HS.o.2.2.2.2.2.2.2.1) (yd (hk.cell HS.o.2.2.2.2.2.2.2.2.1) (hk.cell HS.o.2.2.2.2.2.2.2.2.2))))))))));have HT:=yN dK;have HCe:=yN (HCd.o.kept hk);have lZ:=yN (aB aP.o hk);refine hK _ _ (.inr aF.o) ?_;clear hK K HS dK hk HCd aP;have HS:=aF;clear aF;refine oM 10 fun K hK=>?_;go_simp;refine (FZ b i c1 P Q _ HCe.o.h0 HCe.o.dis cY).mono ?_;rintro e wf ⟨c,rfl,hn,hk⟩;have aF:=yN (yd (hk.cell HS.o.1) (yd (hk.cell HS.o.2.1) (yd (hk.cell HS.o.2.2.1) (yd (hk.cell HS.o.2.2.2.1) (yd (hk.cell HS.o.2.2.2.2.1) (yd (hk.cell HS.o.2.2.2.2.2.1) (yd (hk.cell HS.o.2.2.2.2.2.2.1) (yd (hk.cell HS.o.2.2.2.2.2.2.2.1) (yd (hk.cell HS.o.2.2.2.2.2.2.2.2.1) (hk.cell HS.o.2.2.2.2.2.2.2.2.2))))))))));have HNf:=yN hn;have HTf:=yN (HT.o.kept hk);have HCf:=yN (HCe.o.kept hk);have fO:=yN (aB lZ.o hk);refine hK _ _ (.inr aF.o) ?_;clear hK K HS hn hk HCe lZ HT;have HS:=aF;clear aF;refine oM 11 fun K hK=>?_;go_simp;refine hK _ _ (.inr HS.o) ?_;clear hK K;refine oM 12 fun K hK=>?_;go_simp;refine hK _ _ (.inr HS.o) ?_;clear hK K;refine oM 13 fun K hK=>?_;go_simp;refine hK _ _ (.inl (by kernel_rfl)) ?_;clear hK K;refine uX (by kernel_rfl) ?_ _;go_wp2;go_ret3;unfold vH;refine⟨c,_,_,rfl,C9 HCf.o pQ.o HNf.o (.inr (.inl ⟨c1,rfl,rfl,?_⟩)),fO.o,fun e=>by cases e⟩;rw [BW.o];exact HTf.o
  | none=>
   refine (RB b i P Q _ HC.o.h0 cY hP).mono ?_;rintro e w1 ⟨rfl,hk⟩;have aA:Kept w1 (w1.alloc (yL #[yA yj,yA yj] 52)):=(yk _ _).alloc (ye _) _;have dJ:=aB hk aA;have gL:=yN (HC.o.kept dJ);have aJ:=yN (aB HK.o dJ);have aF:Hid ((fun W:World=>W.cell? ⟨w.heap.size,0,yO⟩=yP (yE yJ (nu k0))∧W.cell? ⟨w.heap.size,1,yO⟩=yP (yE yJ (nu k1))∧W.cell? ⟨w.heap.size,2,yO⟩=yP (yE yJ (nu m))∧W.cell? ⟨w.heap.size,3,yO⟩=yP (yB yO)∧W.cell? ⟨w.heap.size,4,yO⟩=yP (yA p.1)∧W.cell? ⟨w.heap.size,5,yO⟩=yP (yE yJ hsp)∧W.cell? ⟨w.heap.size+1,0,yO⟩=yP (yA p.1)∧W.cell? ⟨w.heap.size+1,1,yO⟩=yP (yA p.2)) (w1.alloc (yL #[yA yj,yA yj] 52))):=yN (⟨dJ.cell HS.o.1,dJ.cell HS.o.2.1,dJ.cell HS.o.2.2.1,dJ.cell HS.o.2.2.2.1,dJ.cell HS.o.2.2.2.2.1,dJ.cell HS.o.2.2.2.2.2.1,dJ.cell HS.o.2.2.2.2.2.2.1,dJ.cell HS.o.2.2.2.2.2.2.2⟩);clear HS s0 s1 s2 s3 s4 s5 s6 s7;have HS:=aF;clear aF;obtain⟨s0,s1,s2,s3,s4,s5,s6,s7⟩:=id HS.o;clear hk dJ aA HC HK;go_wp2_with fail;generalize w1.alloc _=wz at *;cases hQ:Q i with
   | none=>
    refine (BF b i P Q _ gL.o.h0 cY hQ).mono ?_;rintro e w2 ⟨rfl,hk⟩;have bK:=yN (gL.o.kept hk);have aH:=yN (aB aJ.o hk);have aF:=yN (yd (hk.cell HS.o.1) (yd (hk.cell HS.o.2.1) (yd (hk.cell HS.o.2.2.1) (yd (hk.cell HS.o.2.2.2.1) (yd (hk.cell HS.o.2.2.2.2.1) (yd (hk.cell HS.o.2.2.2.2.2.1) (yd (hk.cell HS.o.2.2.2.2.2.2.1) (hk.cell HS.o.2.2.2.2.2.2.2))))))));clear HS s0 s1 s2 s3 s4 s5 s6 s7;have HS:=aF;clear aF;obtain⟨s0,s1,s2,s3,s4,s5,s6,s7⟩:=id HS.o;clear hk gL aJ;go_wp2_with fail;refine (CX b i p P Q _ bK.o.h0 bK.o.dis cY).mono ?_;rintro e w3 ⟨c,rfl,hn,hk⟩;have eA:=yN hn;have kC:=yN (bK.o.kept hk);have aL:=yN (aB aH.o hk);clear hn hk s0 s1 s2 s3 s4 s5 s6 s7;go_wp2;go_ret3;unfold vH;refine⟨c,_,_,rfl,C9 kC.o pQ.o eA.o (.inl ⟨p,rfl,rfl,?_⟩),aL.o,fun e=>by cases e⟩;rw [kC.o.h3 i hP hQ,VB]
   | some k=>
    refine (BA b i k P Q _ gL.o.h0 cY hQ).mono ?_;rintro e w2 ⟨rfl,hk⟩;have bK:=yN (gL.o.kept hk);have aH:=yN (aB aJ.o hk);have aF:=yN (yd (hk.cell HS.o.1) (yd (hk.cell HS.o.2.1) (yd (hk.cell HS.o.2.2.1) (yd (hk.cell HS.o.2.2.2.1) (yd (hk.cell HS.o.2.2.2.2.1) (yd (hk.cell HS.o.2.2.2.2.2.1) (yd (hk.cell HS.o.2.2.2.2.2.2.1) (hk.cell HS.o.2.2.2.2.2.2.2))))))));clear HS s0 s1 s2 s3 s4 s5 s6 s7;have HS:=aF;clear aF;obtain⟨s0,s1,s2,s3,s4,s5,s6,s7⟩:=id HS.o;clear hk gL aJ;go_wp2_with fail;refine (n4.o k (fs i) _ (bK.o.h2 i k hQ) MC.o).mono ?_;rintro e w3 ⟨c1,ad,ch,rfl,dK,hk,hch⟩;have HT:=yN dK;have nC:=yN hch;have kC:=yN (bK.o.kept hk);have aL:=yN (aB aH.o hk);have aF:=yN (yd (hk.cell HS.o.1) (yd (hk.cell HS.o.2.1) (yd (hk.cell HS.o.2.2.1) (yd (hk.cell HS.o.2.2.2.1) (yd (hk.cell HS.o.2.2.2.2.1) (yd (hk.cell HS.o.2.2.2.2.2.1) (yd (hk.cell HS.o.2.2.2.2.2.2.1) (hk.cell HS.o.2.2.2.2.2.2.2))))))));clear HS s0 s1 s2 s3 s4 s5 s6 s7;have HS:=aF;clear aF;obtain⟨s0,s1,s2,s3,s4,s5,s6,s7⟩:=id HS.o;clear hk dK hch bK aH;cases ch with
    | false=>
     have HV:=yN (nC.o rfl).2;clear nC;go_wp2_with fail;go_ret3;unfold vH;have hj:join (bN k0 k1 m) lvl fs p.1=yP p.2:=by rw [BC,pQ.o];exact HV.o
     refine⟨b,_,_,rfl,?_,aL.o,fun _=>⟨rfl,hj⟩⟩;rw [qG _ _ _ hj];exact kC.o.ct
    | true=>
     go_wp2_with fail;refine (FZ b i c1 P Q _ kC.o.h0 kC.o.dis cY).mono ?_;rintro e w4 ⟨c,rfl,hn,hk⟩;have HN4:=yN hn;have jH:=yN (kC.o.kept hk);have HT4:=yN (HT.o.kept hk);have aR:=yN (aB aL.o hk);clear hn hk s0 s1 s2 s3 s4 s5 s6 s7;go_wp2;go_ret3;unfold vH;exact⟨c,_,_,rfl,C9 jH.o pQ.o HN4.o (.inr (.inl ⟨c1,rfl,rfl,HT4.o⟩)),aR.o,fun e=>by cases e⟩
end
section
variable {p:Pr} {l:List Pr} {i:Nat}
def cV (hs:Key→Nat):List Pr→List Value
 | []=>[]
 | p::l=>yA p.1::yA p.2::yE yJ (hs p.1:Nat)::cV hs l
theorem aVM (hs:Key→Nat) (l:List Pr):(cV hs l).length=l.length*3:=by
 induction l with
 | nil=>rfl
 | cons p l ih=>simp [cV,ih];omega
theorem aF9 (hs:Key→Nat) (l m:List Pr):cV hs (l++m)=cV hs l++cV hs m:=by
 induction l with
 | nil=>rfl
 | cons f l ih=>simp [cV,ih]
theorem aVN (hs:Key→Nat) (l:List Pr):∀ u∈cV hs l,u.oneCell'=true:=by
 induction l with
 | nil=>simp [cV]
 | cons x l ih=>
  intro u hu;simp only [cV,yx] at hu;rcases hu with rfl | rfl | rfl | hu
  ·rfl
  ·rfl
  ·rfl
  exact ih u hu
theorem aFH (hs:Key→Nat) (l:List Pr) (r:Nat):(cV hs l).take (r*3)=cV hs (l.take r):=by
 induction l generalizing r with
 | nil=>simp [cV]
 | cons p l ih=>
  cases r with
  | zero=>simp [cV]
  | succ r=>
   rw [show (r+1)*3=r*3+1+1+1 by omega];simp [cV,ih]
theorem aFI (hs:Key→Nat) (l:List Pr) (r:Nat):(cV hs l).drop (r*3)=cV hs (l.drop r):=by
 induction l generalizing r with
 | nil=>simp [cV]
 | cons p l ih=>
  cases r with
  | zero=>simp
  | succ r=>
   rw [show (r+1)*3=r*3+1+1+1 by omega];simp [cV,ih]
theorem aVO (hs:Key→Nat) {r:Nat} (h:r<l.length):cV hs (l.set r p)=(cV hs l).take (r*3)++([yA p.1,yA p.2,yE yJ (hs p.1:Nat)]++(cV hs l).drop ((r+1)*3)):=by
 rw [aFH,aFI,List.set_eq_take_append_cons_drop,if_pos h,aF9];rfl
theorem GK (hs:Key→Nat) (h:l[i]?=yP p):(cV hs l)[i*3]?=yP (yA p.1)∧(cV hs l)[i*3+1]?=yP (yA p.2)∧(cV hs l)[i*3+2]?=yP (yE yJ (hs p.1:Nat)):=by
 induction l generalizing i with
 | nil=>simp at h
 | cons q l ih=>
  cases i with
  | zero=>simp at h;subst h;simp [cV]
  | succ i=>
   simp at h;have:=ih h;rw [show (i+1)*3=i*3+1+1+1 by omega];exact⟨this.1,this.2.1,this.2.2⟩
def SH (hs:Key→Nat) (lvl fb lb:Nat) (B:Nat) (w0:World) (g n cap:Nat) (d:Array Pr) (W:World):Prop:=
 W.ownsRow B 397 3 (yC (yP ⟨g,0,yO⟩) n cap) n (cV hs d.toList)∧w0.grownBy W (yP g)∧d.size=n∧fb<B∧lb<B∧W.cell? ⟨fb,0,yO⟩=yP (yG (.func 366) #[] #[yB (yP ⟨lb,0,yO⟩)])∧W.cell? ⟨lb,0,yO⟩=yP (yE yH (lvl:Nat))
section
variable {hs:Key→Nat} {lvl fb lb B:Nat} {w0 W:World} {g n cap:Nat} {d:Array Pr}
theorem SH.kept {W':World} (h:SH hs lvl fb lb B w0 g n cap d W) (hk:Kept W W'):SH hs lvl fb lb B w0 g n cap d W':=
 ⟨bT h.1 hk,⟨hk.os.trans h.2.1.os,hk.tape.trans h.2.1.tape,hk.output.trans h.2.1.output,yf h.2.1.size hk.size,fun k aS hk2=>(hk.block k (yi aS h.2.1.size)).trans (h.2.1.block k aS hk2)⟩,h.2.2.1,h.2.2.2.1,h.2.2.2.2.1,hk.cell h.2.2.2.2.2.1,hk.cell h.2.2.2.2.2.2⟩
theorem SH.cf (h:SH hs lvl fb lb B w0 g n cap d W):W.cell? ⟨fb,0,yO⟩=yP (yG (.func 366) #[] #[yB (yP ⟨lb,0,yO⟩)]):=h.2.2.2.2.2.1
theorem SH.cl (h:SH hs lvl fb lb B w0 g n cap d W):W.cell? ⟨lb,0,yO⟩=yP (yE yH (lvl:Nat)):=h.2.2.2.2.2.2
theorem SH.at_ (h:SH hs lvl fb lb B w0 g n cap d W) (hi:i<n):d.toList[i]?=yP d[i]!:=by
 have:i<d.size:=by rw [h.2.2.1];exact hi
 rw [List.getElem?_eq_getElem (by simpa using this)];simp [getElem!_pos d i this]
theorem SH.c1 (h:SH hs lvl fb lb B w0 g n cap d W) (hi:i<n):W.cell? ⟨g,i*3,yO⟩=yP (yA d[i]!.1):=gU h.1 (GK hs (h.at_ hi)).1
theorem SH.c2 (h:SH hs lvl fb lb B w0 g n cap d W) (hi:i<n):W.cell? ⟨g,i*3+1,yO⟩=yP (yA d[i]!.2):=gU h.1 (GK hs (h.at_ hi)).2.1
theorem SH.c3 (h:SH hs lvl fb lb B w0 g n cap d W) (hi:i<n):W.cell? ⟨g,i*3+2,yO⟩=yP (yE yJ (hs d[i]!.1:Nat)):=gU h.1 (GK hs (h.at_ hi)).2.2
theorem SH.fz (h:SH hs lvl fb lb B w0 g n cap d W) (j:Nat):W.frozen? ⟨g,j,yO⟩=false:=let ⟨_,hh⟩:=dX h.1 rfl;aU hh
theorem SH.le (h:SH hs lvl fb lb B w0 g n cap d W):B≤g:=(h.1.lt g rfl).1
theorem SH.set (h:SH hs lvl fb lb B w0 g n cap d W) (hi:i<n) (p:Pr):SH hs lvl fb lb B w0 g n cap (d.setIfInBounds i p) (((W.setCell ⟨g,i*3,yO⟩ (yA p.1)).setCell ⟨g,i*3+1,yO⟩ (yA p.2)).setCell ⟨g,i*3+2,yO⟩ (yE yJ (hs p.1:Nat))):=by
 have h1:=yR h.1 hi (ys:=[yA p.1,yA p.2,yE yJ (hs p.1:Nat)]) rfl;have hg:=eU g [yA p.1,yA p.2,yE yJ (hs p.1:Nat)] (i*3) W;have hB:=h.le;refine⟨?_,mS h.2.1 hg,by rw [Array.size_setIfInBounds];exact h.2.2.1,h.2.2.2.1,h.2.2.2.2.1,eG hg h.cf (fun e=>by have e2:fb=g:=Option.some.inj e;have:=h.2.2.2.1;omega),eG hg h.cl (fun e=>by have e2:lb=g:=Option.some.inj e;have:=h.2.2.2.2.1;omega)⟩;rw [Array.toList_setIfInBounds,aVO hs (by rw [Array.length_toList,h.2.2.1];exact hi)];exact h1
end
def zF (a b:Nat):Int:=if a<b then -1 else if b<a then 1 else 0
theorem aHJ (a b:Nat):zF a b<0↔a<b:=by
 unfold zF;by_cases h:a<b;·simp [h]
 by_cases h2:b<a;·simp [h,h2]
 simp [h,h2]
theorem aQT (a b:Nat) (w:World):Calls yM 370 #[yE yH (a:Nat),yE yH (b:Nat)] w fun e w'=>e = .returned (yE yH (zF a b))∧w=w':=by
 by_cases h:a<b
 ·have h':(a:Int)<(b:Int):=by omega
  go_enter func370,ntmps370;go_wp2;all_goals go_ret
  exact⟨gO (by unfold zF;rw [if_pos h]),rfl⟩
 have h':¬ (a:Int)<(b:Int):=by omega
 by_cases h2:b<a
 ·have uF:(b:Int)<(a:Int):=by omega
  go_enter func370,ntmps370;go_wp2;all_goals go_ret
  exact⟨gO (by unfold zF;rw [if_neg h,if_pos h2]),rfl⟩
 have uF:¬ (b:Int)<(a:Int):=by omega
 go_enter func370,ntmps370;go_wp2;all_goals go_ret
 exact⟨gO (by unfold zF;rw [if_neg h,if_neg h2]),rfl⟩
theorem KL (hs:Key→Nat) (lvl lb:Nat) (kD:∀ k,hs k<18446744073709551616) (hlv:lvl<13) (x:Pr) (w:World) (c2:w.cell? ⟨lb,0,yO⟩=yP (yE yH (lvl:Nat))) :
  Calls yM 366 #[yF #[yA x.1,yA x.2,yE yJ (hs x.1:Nat)],yB (yP ⟨lb,0,yO⟩)] w fun e w'=>e = .returned (yE yH (five (hs x.1) lvl:Nat))∧Kept w w':=by
 obtain⟨aA,hb⟩:=aW w (yL #[yA x.1,yA x.2,yE yJ (hs x.1:Nat)] 397);have d2:=aA.cell c2;have d3:=ch 2 hb;have HA:=yN aA;have hh:=kD x.1;go_enter func366,ntmps366;go_wp2_with fail;refine (KW (hs x.1) lvl _ hh hlv).mono ?_;rintro e w1 ⟨rfl,rfl⟩;go_wp2_with fail;go_ret;exact⟨rfl,HA.o⟩
theorem aHK (hs:Key→Nat) (lvl fb lb:Nat) (kD:∀ k,hs k<18446744073709551616) (hlv:lvl<13) (x y:Pr) (w:World) (c1:w.cell? ⟨fb,0,yO⟩=yP (yG (.func 366) #[] #[yB (yP ⟨lb,0,yO⟩)])) (c2:w.cell? ⟨lb,0,yO⟩=yP (yE yH (lvl:Nat))) :
  Calls yM 369 #[yF #[yA x.1,yA x.2,yE yJ (hs x.1:Nat)],yF #[yA y.1,yA y.2,yE yJ (hs y.1:Nat)],yB (yP ⟨fb,0,yO⟩)] w fun e w'=>e = .returned (yE yH (zF (five (hs x.1) lvl) (five (hs y.1) lvl)))∧Kept w w':=by
 obtain⟨hA,hB,hk⟩:=dF w (yL #[yA x.1,yA x.2,yE yJ (hs x.1:Nat)] 397) (yL #[yA y.1,yA y.2,yE yJ (hs y.1:Nat)] 397);have a1:=ch 0 hA;have a2:=ch 1 hA;have a3:=ch 2 hA;have b1:=ch 0 hB;have b2:=ch 1 hB;have b3:=ch 2 hB;have d1:=hk.cell c1;have d2:=hk.cell c2;have HK:=yN hk;go_enter func369,ntmps369;go_wp2_with fail;generalize (w.alloc _).alloc _=w1 at *;generalize w.heap.size=xb at *;have aV:=yN (gB w1);refine jE (fun W:World=>W.cell? ⟨xb,0,yO⟩=yP (yA x.1)∧W.cell? ⟨xb,1,yO⟩=yP (yA x.2)∧W.cell? ⟨xb,2,yO⟩=yP (yE yJ (hs x.1:Nat))∧W.cell? ⟨xb+1,0,yO⟩=yP (yA y.1)∧W.cell? ⟨xb+1,1,yO⟩=yP (yA y.2)∧W.cell? ⟨xb+1,2,yO⟩=yP (yE yJ (hs y.1:Nat))∧W.cell? ⟨fb,0,yO⟩=yP (yG (.func 366) #[] #[yB (yP ⟨lb,0,yO⟩)])∧W.cell? ⟨lb,0,yO⟩=yP (yE yH (lvl:Nat))) 8 ⟨a1,a2,a3,b1,b2,b3,d1,d2⟩ fun HS=>?_;generalize w1.drew=w2 at *;refine tH 0 HS ?_;simp only [Act.put,yp,yu,yv,yt,yq];refine tH 1 HS ?_;simp only [Act.put,yp,yu,yv,yt,yr,yq];refine tH 3 HS ?_;simp only [Act.put,yp,yu,yv,yt,yr,yq];refine tH 4 HS ?_;simp only [Act.put,yp,yu,yv,yt,yr,yq];have k9:=yN (aB HK.o aV.o);refine oH 2 fun K hK=>?_;go_simp;refine (KL hs lvl lb kD hlv x w2 HS.o.2.2.2.2.2.2.2).mono ?_;rintro e w3 ⟨rfl,hk⟩;have aF:=yN (aD (aD (aD (aD (aD (aD (aD bL)))))) hk HS.o);have aL:=yN (aB k9.o hk);refine hK _ _ aF.o ?_;have HS:=aF;refine oH 5 fun K hK=>?_;go_simp;refine (KL hs lvl lb kD hlv y w3 HS.o.2.2.2.2.2.2.2).mono ?_;rintro e w4 ⟨rfl,hk⟩;have aF:=yN (aD (aD (aD (aD (aD (aD (aD bL)))))) hk HS.o);have aR:=yN (aB aL.o hk);refine hK _ _ aF.o ?_;have HS:=aF;refine oH 6 fun K hK=>?_;go_simp;refine (aQT (five (hs x.1) lvl) (five (hs y.1) lvl) w4).mono ?_;rintro e w' ⟨rfl,rfl⟩;refine hK _ _ HS.o ?_;refine oH 7 fun K hK=>?_;go_simp;refine hK _ _ HS.o ?_;refine dA ?_;go_wp2_with fail;go_ret;exact⟨rfl,aR.o⟩
def xU (hs:Key→Nat) (lvl:Nat) (p q:Pr):Bool:=decide (five (hs p.1) lvl<five (hs q.1) lvl)
theorem aIO (hs:Key→Nat) (lvl:Nat):Sort.SWO (xU hs lvl):=⟨fun x=>by simp [xU],fun x y z h1 h2=>by simp [xU] at *;omega,fun x y z h1 h2=>by simp [xU] at *;omega⟩
def XR (hs:Key→Nat) (lvl fb lb:Nat) (B:Nat) (w0:World) (g n cap a b:Nat) (d:Array Pr) (e:Ending) (w':World):Prop:=
 e = .returned (.tuple #[])∧∃ d',Sort.PermIn a b d d'∧Sort.SortedIn (xU hs lvl) a b d'∧SH hs lvl fb lb B w0 g n cap d' w'
theorem aPY (hs:Key→Nat) (lvl fb lb:Nat) (kD:∀ k,hs k<18446744073709551616) (hlv:lvl<13) (B g n cap a b:Nat) (d:Array Pr) (w0 w:World) (h:SH hs lvl fb lb B w0 g n cap d w) (h1:a≤b) (h2:b≤n) (hn:n≤1000000) :
  Calls yM 435 #[yC (yP ⟨g,0,yO⟩) n cap,yE yH a,yE yH b,yG (.func 369) #[] #[yB (yP ⟨fb,0,yO⟩)]] w (XR hs lvl fb lb B w0 g n cap a b d):=by
 have H:=yN h;have sN:=h.2.2.1;have nH:=yN sN;clear h sN;obtain⟨a1,ha1⟩:∃ a1:Nat,a1=a+1:=⟨_,rfl⟩;have ca1:(a:Int)+1=(a1:Int):=by omega
 have wa1:yH.wrap ((a:Int)+1)=(a1:Int):=by rw [zk];omega
 have HA:=yN ha1;clear ha1;go_enter func435,ntmps435;go_wp2_with fail
 go_loopg [8] (b-a1) (fun kx s8 wr=>∃ (i:Nat) (dk:Array Pr),s8=yE yH i∧Hid (a1≤i∧(i≤b∨i=a1)∧b-i≤kx)∧Hid (SH hs lvl fb lb B w0 g n cap dk wr)∧Hid (Sort.PermIn a b d dk∧Sort.SortedIn (xU hs lvl) a i dk))
 case atStart=>exact⟨a1,d,rfl,yN ⟨ye _,.inr rfl,ye _⟩,H,yN ⟨Sort.permIn_refl _ _ _,fun x y h1 h2 h3=>by have:=HA.o;omega⟩⟩
 clear H;obtain⟨i,dk,rfl,HI,S1,HP⟩:=hrel;have zZ:=HI.o;by_cases hlt:i<b
 ·have cD:(i:Int)<(b:Int):=by omega
  have hai:a<i∧i<n:=by have:=HA.o;omega
  have qY:=yN S1.o.2.2.1;clear zZ;go_wp2_with fail
  go_loopg [9] (i-a) (fun kx s9 wx=>∃ j:Nat,s9=yE yH j∧Hid (a≤j∧j≤i∧j-a≤kx)∧Hid (SH hs lvl fb lb B w0 g n cap (cQ dk i (i-j)) wx)∧Hid (j=i∨xU hs lvl dk[i]! dk[j]! = true))
  case atStart=>exact⟨i,rfl,yN ⟨by omega,ye _,ye _⟩,by rw [Nat.sub_self];exact S1,yN (.inl rfl)⟩
  clear S1;obtain⟨j,rfl,HJ,S1,HT⟩:=hrel;have qZ:=HJ.o;by_cases hja:a<j
  ·have ZA:(a:Int)<(j:Int):=by omega
   obtain⟨j1,lW⟩:∃ j1:Nat,j1=j-1:=⟨_,rfl⟩;have cj1:(j:Int)-1=(j1:Int):=by omega
   have wj1:yH.wrap ((j:Int)-1)=(j1:Int):=by rw [zk];omega
   have S6:j<n∧j1<n∧j≠j1:=by omega
   have sS:=yN (show j1+1=j by omega);obtain⟨x,sO⟩:∃ x,x=(cQ dk i (i-j))[j]!:=⟨_,rfl⟩;obtain⟨y,vX⟩:∃ y,y=(cQ dk i (i-j))[j1]!:=⟨_,rfl⟩;have hg1:x=dk[i]!:=by
    rw [sO,JW dk i (i-j) (by omega) (by have:=qY.o;omega),if_neg (by omega),if_pos (by omega)]
   have hg2:y=dk[j1]!:=by
    rw [vX,JW dk i (i-j) (by omega) (by have:=qY.o;omega),if_neg (by omega),if_neg (by omega)]
   have bP:=yN (yd sO vX);have HG:=yN (yd hg1 hg2);clear sO vX hg1 hg2 lW qZ;cases hx:xU hs lvl x y with
   | true=>
    go_wp2_with fail;have cN:Hid (SH hs lvl fb lb B w0 g n cap (cQ dk i (i-j)) wr.drew):=yN (S1.o.kept (ym (yk _ _)));have ho:zF (five (hs x.1) lvl) (five (hs y.1) lvl)<0:=(aHJ _ _).2 (of_decide_eq_true hx);have ea:(((j:Nat):Int)).toNat=j:=by omega
    have eb:(((j1:Nat):Int)).toNat=j1:=by omega
    have wa:yH.wrap ((j:Nat):Int)=((j:Nat):Int):=by rw [zk];omega
    have wb:yH.wrap ((j1:Nat):Int)=((j1:Nat):Int):=by rw [zk];omega
    have pa:(0:Int)≤((j:Nat):Int)∧((j:Nat):Int)<(n:Int):=by omega
    have pb:(0:Int)≤((j1:Nat):Int)∧((j1:Nat):Int)<(n:Int):=by omega
    refine cP (fun W:World=>W.cell? ⟨g,j*3,yO⟩=yP (yA x.1)∧W.cell? ⟨g,j*3+1,yO⟩=yP (yA x.2)∧W.cell? ⟨g,j*3+2,yO⟩=yP (yE yJ (hs x.1:Nat))∧W.cell? ⟨g,j1*3,yO⟩=yP (yA y.1)∧W.cell? ⟨g,j1*3+1,yO⟩=yP (yA y.2)∧W.cell? ⟨g,j1*3+2,yO⟩=yP (yE yJ (hs y.1:Nat))) 14 17 ⟨by rw [bP.o.1];exact S1.o.c1 (by omega),by rw [bP.o.1];exact S1.o.c2 (by omega),by rw [bP.o.1];exact S1.o.c3 (by omega),by rw [bP.o.2];exact S1.o.c1 (by omega),by rw [bP.o.2];exact S1.o.c2 (by omega),by rw [bP.o.2];exact S1.o.c3 (by omega)⟩ fun HS=>?_;clear S1;generalize wr.drew=wd at *;refine tM 0 HS ?_;simp only [Act.put,yp,yu,yv,yt,yq];refine tM 1 HS ?_;simp only [Act.put,yp,yu,yv,yt,yr,yq];refine tM 2 HS ?_;simp only [Act.put,yp,yu,yv,yt,yr,yq];refine tM 3 HS ?_;simp only [Act.put,yp,yu,yv,yt,yr,yq];refine tM 4 HS ?_;simp only [Act.put,yp,yu,yv,yt,yr,yq];refine tM 5 HS ?_;simp only [Act.put,yp,yu,yv,yt,yr,yq];refine tM 6 HS ?_;simp only [Act.put,yp,yu,yv,yt,yr,yq];refine tM 7 HS ?_;simp only [Act.put,yp,yu,yv,yt,yr,yq];refine lM 8 HS ?_;simp only [Act.put,yp,yu,yv,yt,yr,yq];refine tM 9 HS ?_;simp only [Act.put,yp,yu,yv,yt,yr,yq];refine tM 10 HS ?_;simp only [Act.put,yp,yu,yv,yt,yr,yq];refine tM 11 HS ?_;simp only [Act.put,yp,yu,yv,yt,yr,yq];refine tM 12 HS ?_;simp only [Act.put,yp,yu,yv,yt,yr,yq];refine lM 13 HS ?_;simp only [Act.put,yp,yu,yv,yt,yr,yq];refine oM 14 fun K hK=>?_;go_simp;refine (aHK hs lvl fb lb kD hlv x y _ cN.o.cf cN.o.cl).mono ?_;rintro e wf ⟨rfl,hk⟩;refine hK _ _ aX ?_;have S1:=yN (cN.o.kept hk);clear hK K HS cN hk ea eb wa wb pa pb;refine oM 15 fun K hK=>?_;go_simp;refine hK _ _ aX ?_;clear hK K;refine oM 16 fun K hK=>?_;go_simp;refine hK _ _ aX ?_;clear hK K;refine cM ?_;clear ho;go_wp2_with fail;obtain⟨x,hx⟩:∃ x,x=(cQ dk i (i-j))[j]!:=⟨_,rfl⟩;obtain⟨y,hy⟩:∃ y,y=(cQ dk i (i-j))[j1]!:=⟨_,rfl⟩;have cN:Hid (SH hs lvl fb lb B w0 g n cap (cQ dk i (i-j)) wf.drew):=yN (S1.o.kept (ym (yk _ _)));have bP:=yN (yd hx hy);have ea:(((j:Nat):Int)).toNat=j:=by omega
    have eb:(((j1:Nat):Int)).toNat=j1:=by omega
    have wa:yH.wrap ((j:Nat):Int)=((j:Nat):Int):=by rw [zk];omega
    have wb:yH.wrap ((j1:Nat):Int)=((j1:Nat):Int):=by rw [zk];omega
    have pa:(0:Int)≤((j:Nat):Int)∧((j:Nat):Int)<(n:Int):=by omega
    have pb:(0:Int)≤((j1:Nat):Int)∧((j1:Nat):Int)<(n:Int):=by omega
    refine cP (fun W:World=>W.cell? ⟨g,j1*3,yO⟩=yP (yA y.1)∧W.cell? ⟨g,j1*3+1,yO⟩=yP (yA y.2)∧W.cell? ⟨g,j1*3+2,yO⟩=yP (yE yJ (hs y.1:Nat))∧W.cell? ⟨g,j*3,yO⟩=yP (yA x.1)∧W.cell? ⟨g,j*3+1,yO⟩=yP (yA x.2)∧W.cell? ⟨g,j*3+2,yO⟩=yP (yE yJ (hs x.1:Nat))) 15 18 ⟨by rw [hy];exact S1.o.c1 (by omega),by rw [hy];exact S1.o.c2 (by omega),by rw [hy];exact S1.o.c3 (by omega),by rw [hx];exact S1.o.c1 (by omega),by rw [hx];exact S1.o.c2 (by omega),by rw [hx];exact S1.o.c3 (by omega)⟩ fun HS=>?_;clear S1 hx hy;generalize wf.drew=wd at *;refine tM 0 HS ?_;simp only [Act.put,yp,yu,yv,yt,yq];refine tM 1 HS ?_;simp only [Act.put,yp,yu,yv,yt,yr,yq];refine tM 2 HS ?_;simp only [Act.put,yp,yu,yv,yt,yr,yq];refine tM 3 HS ?_;simp only [Act.put,yp,yu,yv,yt,yr,yq];refine tM 4 HS ?_;simp only [Act.put,yp,yu,yv,yt,yr,yq];refine tM 5 HS ?_;simp only [Act.put,yp,yu,yv,yt,yr,yq];refine tM 6 HS ?_;simp only [Act.put,yp,yu,yv,yt,yr,yq];refine tM 7 HS ?_;simp only [Act.put,yp,yu,yv,yt,yr,yq];refine tM 8 HS ?_;simp only [Act.put,yp,yu,yv,yt,yr,yq];refine lM 9 HS ?_;simp only [Act.put,yp,yu,yv,yt,yr,yq];refine tM 10 HS ?_;simp only [Act.put,yp,yu,yv,yt,yr,yq];refine tM 11 HS ?_;simp only [Act.put,yp,yu,yv,yt,yr,yq];refine tM 12 HS ?_;simp only [Act.put,yp,yu,yv,yt,yr,yq];refine lM 13 HS ?_;simp only [Act.put,yp,yu,yv,yt,yr,yq];refine tM 14 HS ?_;simp only [Act.put,yp,yu,yv,yt,yr,yq];have z1:=HS.o.2.2.2.1;have z2:=HS.o.2.2.2.2.1;have z3:=HS.o.2.2.2.2.2;have f1:wd.frozen? ⟨g,j*3,yO⟩=false:=cN.o.fz _;have f2:wd.frozen? ⟨g,j*3+1,yO⟩=false:=cN.o.fz _;have f3:wd.frozen? ⟨g,j*3+2,yO⟩=false:=cN.o.fz _;refine oM 15 fun K hK=>?_;go_simp;refine hK _ _ aX ?_;have S2:Hid (SH hs lvl fb lb B w0 g n cap ((cQ dk i (i-j)).setIfInBounds (j) y) (((wd.setCell ⟨g,j*3,yO⟩ (yA y.1)).setCell ⟨g,j*3+1,yO⟩ (yA y.2)).setCell ⟨g,j*3+2,yO⟩ (yE yJ (hs y.1:Nat)))):=yN (cN.o.set (by omega) y);clear hK K z1 z2 z3 f1 f2 f3 HS cN;generalize (((wd.setCell _ _).setCell _ _).setCell _ _)=we at *;refine fF 16 aX (h:=?_);simp only [Act.put,yp,yu,yv,yt,yr,yq];have z1:=S2.o.c1 (i:=j1) (by omega);have z2:=S2.o.c2 (i:=j1) (by omega);have z3:=S2.o.c3 (i:=j1) (by omega);have f1:we.frozen? ⟨g,j1*3,yO⟩=false:=S2.o.fz _;have f2:we.frozen? ⟨g,j1*3+1,yO⟩=false:=S2.o.fz _;have f3:we.frozen? ⟨g,j1*3+2,yO⟩=false:=S2.o.fz _;generalize (hs (((cQ dk i (i-j)).setIfInBounds (j) y)[j1]!).1)=zz3 at *;generalize (((cQ dk i (i-j)).setIfInBounds (j) y)[j1]!).1=NG at *;generalize (((cQ dk i (i-j)).setIfInBounds (j) y)[j1]!).2=NH at *;refine oM 17 fun K hK=>?_;go_simp;refine hK _ _ aX ?_;have S3:Hid (SH hs lvl fb lb B w0 g n cap (Sort.swp (cQ dk i (i-j)) (j) (j1)) (((we.setCell ⟨g,j1*3,yO⟩ (yA x.1)).setCell ⟨g,j1*3+1,yO⟩ (yA x.2)).setCell ⟨g,j1*3+2,yO⟩ (yE yJ (hs x.1:Nat)))):=yN (by have h3:=S2.o.set (i:=j1) (by omega) x;unfold Sort.swp;rw [← bP.o.1,← bP.o.2];exact h3);clear hK K z1 z2 z3 f1 f2 f3 S2 bP ea eb wa wb pa pb;generalize (((we.setCell _ _).setCell _ _).setCell _ _)=wz at *;refine cM ?_;go_wp2;go_roundg (j1-a);case measure=>have:=HJ.o;have:=sS.o;omega
    have e1:=sS.o;have e2:=HJ.o;refine⟨j1,rfl,yN (by omega),yN ?_,yN (.inr (by rw [← HG.o.1,← HG.o.2];exact hx))⟩;rw [show i-j1=(i-j)+1 by omega,cQ,show i-(i-j)=j by omega,show j-1=j1 by omega];exact S3.o
   | false=>
    go_wp2_with fail;have cN:Hid (SH hs lvl fb lb B w0 g n cap (cQ dk i (i-j)) wr.drew):=yN (S1.o.kept (ym (yk _ _)));have ho:¬ zF (five (hs x.1) lvl) (five (hs y.1) lvl)<0:=fun h=>(of_decide_eq_false hx) ((aHJ _ _).1 h);have ea:(((j:Nat):Int)).toNat=j:=by omega
    have eb:(((j1:Nat):Int)).toNat=j1:=by omega
    have wa:yH.wrap ((j:Nat):Int)=((j:Nat):Int):=by rw [zk];omega
    have wb:yH.wrap ((j1:Nat):Int)=((j1:Nat):Int):=by rw [zk];omega
    have pa:(0:Int)≤((j:Nat):Int)∧((j:Nat):Int)<(n:Int):=by omega
    have pb:(0:Int)≤((j1:Nat):Int)∧((j1:Nat):Int)<(n:Int):=by omega
    refine cP (fun W:World=>W.cell? ⟨g,j*3,yO⟩=yP (yA x.1)∧W.cell? ⟨g,j*3+1,yO⟩=yP (yA x.2)∧W.cell? ⟨g,j*3+2,yO⟩=yP (yE yJ (hs x.1:Nat))∧W.cell? ⟨g,j1*3,yO⟩=yP (yA y.1)∧W.cell? ⟨g,j1*3+1,yO⟩=yP (yA y.2)∧W.cell? ⟨g,j1*3+2,yO⟩=yP (yE yJ (hs y.1:Nat))) 14 17 ⟨by rw [bP.o.1];exact S1.o.c1 (by omega),by rw [bP.o.1];exact S1.o.c2 (by omega),by rw [bP.o.1];exact S1.o.c3 (by omega),by rw [bP.o.2];exact S1.o.c1 (by omega),by rw [bP.o.2];exact S1.o.c2 (by omega),by rw [bP.o.2];exact S1.o.c3 (by omega)⟩ fun HS=>?_;clear S1;generalize wr.drew=wd at *;refine tM 0 HS ?_;simp only [Act.put,yp,yu,yv,yt,yq];refine tM 1 HS ?_;simp only [Act.put,yp,yu,yv,yt,yr,yq];refine tM 2 HS ?_;simp only [Act.put,yp,yu,yv,yt,yr,yq];refine tM 3 HS ?_;simp only [Act.put,yp,yu,yv,yt,yr,yq];refine tM 4 HS ?_;simp only [Act.put,yp,yu,yv,yt,yr,yq];refine tM 5 HS ?_;simp only [Act.put,yp,yu,yv,yt,yr,yq];refine tM 6 HS ?_;simp only [Act.put,yp,yu,yv,yt,yr,yq];refine tM 7 HS ?_;simp only [Act.put,yp,yu,yv,yt,yr,yq];refine lM 8 HS ?_;simp only [Act.put,yp,yu,yv,yt,yr,yq];refine tM 9 HS ?_;simp only [Act.put,yp,yu,yv,yt,yr,yq];refine tM 10 HS ?_;simp only [Act.put,yp,yu,yv,yt,yr,yq];refine tM 11 HS ?_;simp only [Act.put,yp,yu,yv,yt,yr,yq];refine tM 12 HS ?_;simp only [Act.put,yp,yu,yv,yt,yr,yq];refine lM 13 HS ?_;simp only [Act.put,yp,yu,yv,yt,yr,yq];refine oM 14 fun K hK=>?_;go_simp;refine (aHK hs lvl fb lb kD hlv x y _ cN.o.cf cN.o.cl).mono ?_;rintro e wf ⟨rfl,hk⟩;refine hK _ _ aX ?_;have S1:=yN (cN.o.kept hk);clear hK K HS cN hk ea eb wa wb pa pb;refine oM 15 fun K hK=>?_;go_simp;refine hK _ _ aX ?_;clear hK K;refine oM 16 fun K hK=>?_;go_simp;refine hK _ _ aX ?_;clear hK K;refine cM ?_;clear ho;go_wp2;go_roundg (b-(i+1));case measure=>have:=HI.o;omega
    have e1:=sS.o;have e2:=HJ.o;have e3:=HI.o;have hS:=JO (aIO hs lvl) dk a i j (by have:=qY.o;omega) e2.1 e2.2.1 HP.o.2 (.inr (by rw [← HG.o.1,show j-1=j1 by omega,← HG.o.2];exact hx)) HT.o;exact⟨i+1,_,by congr 1,yN (by omega),S1,yN ⟨Sort.permIn_trans _ _ _ _ _ HP.o.1 (JN _ _ _ _ _ (by omega) (by omega) (by omega) (by have:=qY.o;omega)),hS⟩⟩
  have ZA:¬ (a:Int)<(j:Int):=by omega
  have ZB:j=a:=by omega
  have HJA:=yN ZB;clear qZ ZB;go_wp2_with fail;go_region;go_wp2;go_roundg (b-(i+1));case measure=>have:=HI.o;omega
  have e2:=HJ.o;have e3:=HI.o;have hS:=JO (aIO hs lvl) dk a i j (by have:=qY.o;omega) e2.1 e2.2.1 HP.o.2 (.inl HJA.o) HT.o;exact⟨i+1,_,by congr 1,yN (by omega),yN (S1.o.kept (ym (yk _ _))),yN ⟨Sort.permIn_trans _ _ _ _ _ HP.o.1 (JN _ _ _ _ _ (by omega) (by omega) (by omega) (by have:=qY.o;omega)),hS⟩⟩
 have cD:¬ (i:Int)<(b:Int):=by omega
 clear zZ;go_wp2;go_end0;exact⟨rfl,dk,HP.o.1,fun x y h1 h2 h3=>HP.o.2 x y h1 h2 (by omega),S1.o⟩
theorem aRM (hs:Key→Nat) (lvl fb lb:Nat) (kD:∀ k,hs k<18446744073709551616) (hlv:lvl<13) (B g n cap:Nat) (d:Array Pr) (w0 w:World) (h:SH hs lvl fb lb B w0 g n cap d w) (hn:n<20) :
  Calls yM 417 #[yC (yP ⟨g,0,yO⟩) n cap,yE yH n,yG (.func 369) #[] #[yB (yP ⟨fb,0,yO⟩)]] w (XR hs lvl fb lb B w0 g n cap 0 n d):=by
 have H:=yN h;have h1:¬ (20:Int)≤(n:Int):=by omega
 have h2:¬ (20:Int)<(n:Int):=by omega
 go_enter func417,ntmps417;go_wp2_with fail
 go_loopg [7,8] 0 (fun kx s7 s8 wr=>s7=yE yH 0∧s8=yE yH 20∧Hid (SH hs lvl fb lb B w0 g n cap d wr))
 case atStart=>exact⟨rfl,rfl,H⟩
 obtain⟨rfl,rfl,S1⟩:=hrel;go_wp2_with fail;refine (aPY hs lvl fb lb kD hlv B g n cap 0 n d w0 _ S1.o (yg _) (ye _) (by omega)).mono ?_;rintro e w1 ⟨rfl,d2,zY,eY,hs2⟩;have H2:=yN (yd zY eY);have S2:=yN hs2;go_wp2_with fail
 go_loopg [6] 0 (fun kx s6 wx=>s6=yE yH 20∧Hid (SH hs lvl fb lb B w0 g n cap d2 wx))
 case atStart=>exact⟨rfl,S2⟩
 obtain⟨rfl,S2⟩:=hrel;go_wp2;go_end0;exact⟨rfl,d2,H2.o.1,H2.o.2,S2.o⟩
theorem aPQ (hs:Key→Nat) (lvl fb lb:Nat) (kD:∀ k,hs k<18446744073709551616) (hlv:lvl<13) (B g n cap:Nat) (d:Array Pr) (w0 w:World) (h:SH hs lvl fb lb B w0 g n cap d w) (hn:n<20) :
  Calls yM 368 #[yC (yP ⟨g,0,yO⟩) n cap,yG (.func 369) #[] #[yB (yP ⟨fb,0,yO⟩)]] w (XR hs lvl fb lb B w0 g n cap 0 n d):=by
 have H:=yN h;go_enter func368,ntmps368;go_wp2_with fail;refine (aRM hs lvl fb lb kD hlv B g n cap d w0 _ H.o hn).mono ?_;rintro e w1 ⟨rfl,hh⟩;have HH:=yN hh;go_wp2;go_end0;exact⟨rfl,HH.o⟩
end
section
open Sip
attribute [local irreducible] five look
theorem UU {w:World} (q:Nat):Kept w (w.drewN q):=iC (yk _ _) q
theorem aHH (b d n np nk:Nat) (pv kv:Value) (bk:Bool) (ps ks:List Value) (w:World) (h:NA w b d n pv kv bk) (hp:Rd w pv np ps) (hk:Rd w kv nk ks) (hn:np≤1000) (j5:nk≤1000) (zP:n<4294967296) (hno:¬ (np+nk=1∧n=0)) :
  Calls yM 302 #[yB (yP ⟨b,0,yO⟩)] w fun e w'=>e = .returned (.tuple #[yF #[yA yj,yA yj],yD false])∧Kept w w':=by
 obtain⟨bF,hb0⟩:=aW w (yL #[yA ⟨#[]⟩,yA ⟨#[]⟩] 52);have h:=h.kept bF;have HP:=yN (yd (hp.kept bF) (hk.kept bF));have HN:=yN hno;have bG:=yN bF;have gI:=yN hb0;go_enter func302,ntmps302;go_wp2_with fail;generalize aQ:w.heap.size=rb at *;generalize w.alloc _=w0 at *;refine (aIY b d n np nk pv kv bk ps ks _ h HP.o.1 HP.o.2 (by omega) (by omega)).mono ?_;rintro e w1 ⟨rfl,q,rfl⟩;have hN:=h.kept (UU q);have hb1:(w0.drewN q).heap[rb]?=yP (yL #[yA ⟨#[]⟩,yA ⟨#[]⟩] 52 (0,0)):=gI.o;have aJ:=yN (iC bG.o q);generalize w0.drewN q=w1 at *;have z0:w1.cell? ⟨rb,0,yO⟩=yP (yA ⟨#[]⟩):=aG hb1 rfl;have z1:w1.cell? ⟨rb,1,yO⟩=yP (yA ⟨#[]⟩):=aG hb1 rfl;have f0:w1.frozen? ⟨rb,0,yO⟩=false:=aU hb1;have f1:w1.frozen? ⟨rb,1,yO⟩=false:=aU hb1;have pJ:=yN hb1;by_cases h1:np+nk=1
 ·have qX:((np+nk:Nat):Int)=1:=by omega
  have jM:¬ ((n:Int)=0):=by have:=HN.o;omega
  rw [qX];go_wp2_with fail;refine (QB b d n pv kv bk _ hN).mono ?_;rintro e w' ⟨rfl,rfl⟩;go_wp2_with fail
  (try simp only [Exit.inBlock,Exit.then])
  refine bodyPost_ret (fK rfl rfl (heap_setCell (heap_setCell pJ.o)) underlying52 rfl (by kernel_rfl)) rfl ?_;exact⟨rfl,Below.setCell (Below.setCell aJ.o (yh aQ) _) (yh aQ) _⟩
 have qX:¬ (((np+nk:Nat):Int)=1):=by omega
 generalize ((np+nk:Nat):Int)=x at *;go_wp2_with fail
 (try simp only [Exit.inBlock,Exit.then])
 refine bodyPost_ret (fK rfl rfl (heap_setCell (heap_setCell pJ.o)) underlying52 rfl (by kernel_rfl)) rfl ?_;exact⟨rfl,Below.setCell (Below.setCell aJ.o (yh aQ) _) (yh aQ) _⟩
theorem aF8 (b d:Nat) (p:Pr) (pv kv:Value) (bk:Bool) (w:World) (h:NA w b d 0 pv kv bk) (hp:Rd w pv 1 (aK [p])) (hk:Rd w kv 0 []) :
  Calls yM 302 #[yB (yP ⟨b,0,yO⟩)] w fun e w'=>e = .returned (.tuple #[yF #[yA p.1,yA p.2],yD true])∧Kept w w':=by
 obtain⟨bF,hb0⟩:=aW w (yL #[yA ⟨#[]⟩,yA ⟨#[]⟩] 52);have h:=h.kept bF;have HP:=yN (yd (hp.kept bF) (hk.kept bF));have bG:=yN bF;have gI:=yN hb0;go_enter func302,ntmps302;go_wp2_with fail;generalize aQ:w.heap.size=rb at *;generalize w.alloc _=w0 at *;refine (aIY b d 0 1 0 pv kv bk _ _ _ h HP.o.1 HP.o.2 (by omega) (by omega)).mono ?_;rintro e w1 ⟨rfl,q,rfl⟩;have hN:=h.kept (UU q);have HP1:=yN (HP.o.1.kept (UU q));have hb1:(w0.drewN q).heap[rb]?=yP (yL #[yA ⟨#[]⟩,yA ⟨#[]⟩] 52 (0,0)):=gI.o;have aJ:=yN (iC bG.o q);generalize w0.drewN q=w1 at *;have pJ:=yN hb1;go_wp2_with fail;refine (QB b d 0 pv kv bk _ hN).mono ?_;rintro e w' ⟨rfl,rfl⟩;go_wp2_with fail;refine (J6 b d 0 1 pv kv bk _ _ hN HP1.o rfl (by omega) (nQ _)).mono ?_;rintro e w2 ⟨v,rfl,ho,hk⟩;have hb2:=(hk.block rb (yo.1 pJ.o).1).trans pJ.o;have z0:w2.cell? ⟨rb,0,yO⟩=yP (yA ⟨#[]⟩):=aG hb2 rfl;have z1:w2.cell? ⟨rb,1,yO⟩=yP (yA ⟨#[]⟩):=aG hb2 rfl;have f0:w2.frozen? ⟨rb,0,yO⟩=false:=aU hb2;have f1:w2.frozen? ⟨rb,1,yO⟩=false:=aU hb2;have mM:=yN hb2;have aH:=yN (aB aJ.o hk);obtain⟨g,cap,rfl,q0,q1⟩:∃ g cap,v=yC (yP ⟨g,0,yO⟩) 1 cap∧w2.cell? ⟨g,0,yO⟩=yP (yA p.1)∧w2.cell? ⟨g,1,yO⟩=yP (yA p.2):=by
  rcases ho.2 with ⟨_,e⟩ | ⟨g,cap,cur,rfl,_⟩
  ·cases e
  exact⟨g,cap,rfl,gU ho rfl,gU ho rfl⟩
 go_wp2_with fail
 (try simp only [Exit.inBlock,Exit.then])
 refine bodyPost_ret (fK rfl rfl (heap_setCell (heap_setCell mM.o)) underlying52 rfl (by kernel_rfl)) rfl ?_;exact⟨rfl,Below.setCell (Below.setCell aH.o (yh aQ) _) (yh aQ) _⟩
def a30 (f:Mp) (w:World) (e:Ending) (w':World):Prop:=
 Kept w w'∧((e = .returned (.tuple #[yF #[yA yj,yA yj],yD false]))∨∃ p,e = .returned (.tuple #[yF #[yA p.1,yA p.2],yD true])∧f=aY p)
theorem aVK (hs:Key→Nat) (lvl b:Nat) (f:Mp) (w:World) (h:CT hs w lvl b f) (hf:aM f 1000):Calls yM 302 #[yB (yP ⟨b,0,yO⟩)] w (a30 f w):=by
 rcases h.ci with ⟨rfl,l,aO,hr,rfl⟩ | ⟨P,Q,fs,ci,rfl⟩
 ·have hl:l.length≤1000:=(tP hr).few hf;obtain⟨pv,kv,h0,h1,h2⟩:=aO;by_cases qX:l.length=1
  ·obtain⟨p,rfl⟩:=List.length_eq_one_iff.1 qX;refine (aF8 b 0 p pv kv true w h0 h1 h2).mono ?_;rintro e w' ⟨rfl,hk⟩;refine⟨hk,.inr ⟨p,rfl,?_⟩⟩;funext k;unfold look aY;by_cases e:p.1=k;·subst e;simp
   have e':¬ k=p.1:=fun x=>e x.symm;simp [e,e']
  refine (aHH b 0 0 _ 0 pv kv true _ _ w h0 h1 h2 hl (by omega) (by omega) (by omega)).mono ?_;rintro e w' ⟨rfl,hk⟩;exact⟨hk,.inl rfl⟩
 obtain⟨d,n,pv,kv,h0,bd,bn,h1,h2⟩:=ci.h0;have l1:=qH P;have l2:=qH Q;by_cases hh:(aT P).length+(aT Q).length=1∧n=0
 ·obtain⟨mL,rfl⟩:=hh;have hQ:∀ i,i<32→Q i=yO:=fun i hi=>by
   have:=bn.2 i hi;rw [Nat.zero_testBit] at this;cases e:Q i with
   | none=>rfl
   | some k=>rw [e] at this;cases this
  have hQl:aT Q=[]:=by
   apply List.eq_nil_iff_forall_not_mem.2;intro x hx;obtain⟨i,hi,e⟩:=GQ.1 hx;rw [hQ i hi] at e;cases e
  rw [hQl] at mL h2;obtain⟨p,hp⟩:=List.length_eq_one_iff.1 (show (aT P).length=1 from mL);rw [hp] at h1;refine (aF8 b d p pv kv false w h0 h1 h2).mono ?_;rintro e w' ⟨rfl,hk⟩;refine⟨hk,.inr ⟨p,rfl,?_⟩⟩;obtain⟨i,hi,CG⟩:=GQ.1 (show p∈aT P by rw [hp];simp);have hip:five (hs p.1) lvl=i:=ci.h4 i p.1 p.2 (by rw [(ci.h1 i p CG).2];exact DK p);funext k;rw [BC];have hj:=uZ (hs k) lvl;cases e:P (five (hs k) lvl) with
  | some p'=>
   have:p'∈aT P:=GQ.2 ⟨_,hj,e⟩;rw [hp,List.mem_singleton] at this;subst this;rw [(ci.h1 _ p' e).2]
  | none=>
   rw [ci.h3 _ e (hQ _ hj)];by_cases ek:k=p.1;·rw [ek,hip,CG] at e;cases e
   exact (GU p ek).symm
 refine (aHH b d n _ _ pv kv false _ _ w h0 h1 h2 (by omega) (by omega) bn.1 hh).mono ?_;rintro e w' ⟨rfl,hk⟩;exact⟨hk,.inl rfl⟩
end
section
open Sip
attribute [local irreducible] five look
def xE (hs:Key→Nat) (lvl b:Nat) (f:Mp) (key:Key) (w:World) (e:Ending) (w':World):Prop:=
 ∃ c g,e = .returned (.tuple #[yB (yP ⟨c,0,yO⟩),yD g])∧CT hs w' lvl c (upd f key yO)∧Kept w w'∧(g=false→c=b∧f key=yO)
theorem aS4 (k0 k1 m:UInt64) (key:Key):∀ (d lvl b:Nat) (f:Mp) (w:World),lvl+d=13→CT (bN k0 k1 m) w lvl b f→aM f 1000→
  Calls yM 232 #[wk k0 k1 m key (bN k0 k1 m key),yB (yP ⟨b,0,yO⟩),yE yH lvl] w (xE (bN k0 k1 m) lvl b f key w):=by
 intro d;induction d with
 | zero=>
  intro lvl b f w hl h mJ;obtain rfl:lvl=13:=by omega
  unfold wk;obtain⟨hsp,iK⟩:∃ x,x=bN k0 k1 m key:=⟨_,rfl⟩;have qU:hsp<18446744073709551616:=by rw [iK];exact BI _ _ _ _
  rw [← iK];have HP:=yN iK;clear iK;rcases h.ci with ⟨_,l,aO,hr,e⟩ | ⟨P,Q,fs,ci,e⟩
  case inr=>exact absurd ci.hl (by decide)
  subst e;have HL:=yN (show l.length≤1000 from (tP hr).few mJ);have HR:=yN hr;clear h mJ hr;obtain⟨lk,hlk⟩:∃ lk,lk=look l key:=⟨_,rfl⟩;have uP:=yN hlk;clear hlk;go_enter func232,ntmps232;go_wp2_with fail;have hA:=bM w (yL #[yE yJ (nu k0),yE yJ (nu k1),yE yJ (nu m),yB yO,yA key,yE yJ hsp] 323);have hk:Kept w (w.alloc (yL #[yE yJ (nu k0),yE yJ (nu k1),yE yJ (nu m),yB yO,yA key,yE yJ hsp] 323)):=(yk _ _).alloc (ye _) _;have HS:Hid ((fun W:World=>W.cell? ⟨w.heap.size,0,yO⟩=yP (yE yJ (nu k0))∧W.cell? ⟨w.heap.size,1,yO⟩=yP (yE yJ (nu k1))∧W.cell? ⟨w.heap.size,2,yO⟩=yP (yE yJ (nu m))∧W.cell? ⟨w.heap.size,3,yO⟩=yP (yB yO)∧W.cell? ⟨w.heap.size,4,yO⟩=yP (yA key)∧W.cell? ⟨w.heap.size,5,yO⟩=yP (yE yJ hsp)) (w.alloc (yL #[yE yJ (nu k0),yE yJ (nu k1),yE yJ (nu m),yB yO,yA key,yE yJ hsp] 323))):=yN ⟨aG hA rfl,aG hA rfl,aG hA rfl,aG hA rfl,aG hA rfl,aG hA rfl⟩;have HN:=yN (aO.kept hk);have HK:=yN hk;clear hA hk aO;generalize w.alloc _=w0 at *;obtain⟨s0,s1,s2,s3,s4,s5⟩:=id HS.o;have h0:=HN.o.choose_spec.choose_spec.1;refine (xA _ _ _ _ _ _ _ h0).mono ?_;rintro e w' ⟨rfl,rfl⟩;clear h0;go_wp2_with fail;refine (XQ b key l _ HN.o (yf HL.o (by decide)) HR.o).mono ?_;rintro e w1 ⟨rfl,hk⟩;rw [← uP.o];have sZ:=yN (HN.o.kept hk);have aJ:=yN (aB HK.o hk);have aF:=yN (yd (hk.cell HS.o.1) (yd (hk.cell HS.o.2.1) (yd (hk.cell HS.o.2.2.1) (yd (hk.cell HS.o.2.2.2.1) (yd (hk.cell HS.o.2.2.2.2.1) (hk.cell HS.o.2.2.2.2.2))))));clear HS s0 s1 s2 s3 s4 s5;have HS:=aF;clear aF;obtain⟨s0,s1,s2,s3,s4,s5⟩:=id HS.o;clear hk HN HK;cases lk with
  | none=>
   go_wp2_with fail;go_ret2;unfold xE;refine⟨b,_,rfl,?_,aJ.o,fun _=>⟨rfl,uP.o.symm⟩⟩;rw [qG _ _ _ uP.o.symm];exact .bucket b l sZ.o HR.o
  | some v=>
   go_wp2_with fail;refine (aUO b key l _ sZ.o (yf HL.o (by decide)) HR.o).mono ?_;rintro e w2 ⟨c,rfl,hn,hk⟩;have dN:=yN hn;have aH:=yN (aB aJ.o hk);clear hn hk s0 s1 s2 s3 s4 s5;go_wp2;go_ret2;unfold xE;refine⟨c,_,rfl,?_,aH.o,fun e=>by cases e⟩;rw [← aUE HR.o];exact .bucket c _ dN.o (aEZ HR.o key)
 | succ d ih=>
  intro lvl b f w hl h mJ;have hlv:lvl<13:=by omega
  have hwr:yH.wrap ((lvl:Int)+1)=(lvl:Int)+1:=by rw [zk];omega
  have wF:∀ b f w,CT (bN k0 k1 m) w (lvl+1) b f→aM f 1000→Calls yM 232 #[wk k0 k1 m key (bN k0 k1 m key),yB (yP ⟨b,0,yO⟩),yE yH ((lvl:Int)+1)] w (xE (bN k0 k1 m) (lvl+1) b f key w):=fun b f w hc hf=>by
   have:=ih (lvl+1) b f w (by omega) hc hf;rw [Int.natCast_add] at this;exact this
  unfold wk at wF;clear ih;unfold wk;obtain⟨hsp,iK⟩:∃ x,x=bN k0 k1 m key:=⟨_,rfl⟩;have qU:hsp<18446744073709551616:=by rw [iK];exact BI _ _ _ _
  rw [← iK] at wF ⊢;have HP:=yN iK;clear iK;have n4:=yN wF;clear wF;rcases h.ci with ⟨e,_⟩ | ⟨P,Q,fs,ci,e⟩
  case inl=>omega
  subst e;obtain⟨i,hi⟩:∃ i,i=five hsp lvl:=⟨_,rfl⟩;have cY:i<32:=by rw [hi];exact uZ _ _
  have HI:=yN hi;have S8:five (bN k0 k1 m key) lvl=i:=by rw [← HP.o,hi]
  have pQ:=yN S8;have MC:=yN (ci.few mJ i);clear h mJ hi S8;go_enter func232,ntmps232;go_wp2_with fail;have hA:=bM w (yL #[yE yJ (nu k0),yE yJ (nu k1),yE yJ (nu m),yB yO,yA key,yE yJ hsp] 323);have hk:Kept w (w.alloc (yL #[yE yJ (nu k0),yE yJ (nu k1),yE yJ (nu m),yB yO,yA key,yE yJ hsp] 323)):=(yk _ _).alloc (ye _) _;have HS:Hid ((fun W:World=>W.cell? ⟨w.heap.size,0,yO⟩=yP (yE yJ (nu k0))∧W.cell? ⟨w.heap.size,1,yO⟩=yP (yE yJ (nu k1))∧W.cell? ⟨w.heap.size,2,yO⟩=yP (yE yJ (nu m))∧W.cell? ⟨w.heap.size,3,yO⟩=yP (yB yO)∧W.cell? ⟨w.heap.size,4,yO⟩=yP (yA key)∧W.cell? ⟨w.heap.size,5,yO⟩=yP (yE yJ hsp)) (w.alloc (yL #[yE yJ (nu k0),yE yJ (nu k1),yE yJ (nu m),yB yO,yA key,yE yJ hsp] 323))):=yN ⟨aG hA rfl,aG hA rfl,aG hA rfl,aG hA rfl,aG hA rfl,aG hA rfl⟩;have HC:=yN (ci.kept hk);have HK:=yN hk;clear hA hk ci;generalize w.alloc _=w0 at *;obtain⟨s0,s1,s2,s3,s4,s5⟩:=id HS.o;obtain⟨_,_,_,_,h0⟩:=HC.o.h0.na;refine (xA _ _ _ _ _ _ _ h0).mono ?_;rintro e w' ⟨rfl,rfl⟩;clear h0;go_wp2_with fail;refine (KW hsp lvl _ qU hlv).mono ?_;rintro e w' ⟨rfl,rfl⟩;rw [← HI.o];go_wp2_with fail;cases hP:P i with
  | some q=>
   have BW:=yN (HC.o.h1 i q hP).2;refine (QZ b i q P Q _ HC.o.h0 cY hP).mono ?_;rintro e w1 ⟨rfl,hk⟩;have aA:Kept w1 (w1.alloc (yL #[yA q.1,yA q.2] 52)):=(yk _ _).alloc (ye _) _;have dJ:=aB hk aA;have gL:=yN (HC.o.kept dJ);have aJ:=yN (aB HK.o dJ);have aF:Hid ((fun W:World=>W.cell? ⟨w.heap.size,0,yO⟩=yP (yE yJ (nu k0))∧W.cell? ⟨w.heap.size,1,yO⟩=yP (yE yJ (nu k1))∧W.cell? ⟨w.heap.size,2,yO⟩=yP (yE yJ (nu m))∧W.cell? ⟨w.heap.size,3,yO⟩=yP (yB yO)∧W.cell? ⟨w.heap.size,4,yO⟩=yP (yA key)∧W.cell? ⟨w.heap.size,5,yO⟩=yP (yE yJ hsp)) (w1.alloc (yL #[yA q.1,yA q.2] 52))):=yN (⟨dJ.cell HS.o.1,dJ.cell HS.o.2.1,dJ.cell HS.o.2.2.1,dJ.cell HS.o.2.2.2.1,dJ.cell HS.o.2.2.2.2.1,dJ.cell HS.o.2.2.2.2.2⟩);clear HS s0 s1 s2 s3 s4 s5;have HS:=aF;clear aF;obtain⟨s0,s1,s2,s3,s4,s5⟩:=id HS.o;clear hk dJ aA HC HK;have h1:=qJ q.1 key;by_cases lR:q.1=key
   ·rw [decide_eq_true lR] at h1;have HV:=yN lR;clear lR;go_wp2_with fail;refine (aUK b i P Q _ gL.o.h0 gL.o.dis cY).mono ?_;rintro e w2 ⟨c,rfl,hn,hk⟩;have dN:=yN hn;have bK:=yN (gL.o.kept hk);have aH:=yN (aB aJ.o hk);clear hn hk s0 s1 s2 s3 s4 s5;go_wp2;go_ret2;unfold xE;refine⟨c,_,rfl,C9 bK.o pQ.o dN.o (.inr (.inr ⟨rfl,rfl,?_⟩)),aH.o,fun e=>by cases e⟩;rw [BW.o,← HV.o,aXC]
   rw [decide_eq_false lR] at h1;have HV:=yN lR;clear lR;go_wp2_with fail;go_ret2;unfold xE;have hj:join (bN k0 k1 m) lvl fs key=yO:=by rw [BC,pQ.o,BW.o,GU q (fun e=>HV.o e.symm)]
   refine⟨b,_,rfl,?_,aJ.o,fun _=>⟨rfl,hj⟩⟩;rw [qG _ _ _ hj];exact gL.o.ct
  | none=>
   refine (RB b i P Q _ HC.o.h0 cY hP).mono ?_;rintro e w1 ⟨rfl,hk⟩;have aA:Kept w1 (w1.alloc (yL #[yA yj,yA yj] 52)):=(yk _ _).alloc (ye _) _;have dJ:=aB hk aA;have gL:=yN (HC.o.kept dJ);have aJ:=yN (aB HK.o dJ);have aF:Hid ((fun W:World=>W.cell? ⟨w.heap.size,0,yO⟩=yP (yE yJ (nu k0))∧W.cell? ⟨w.heap.size,1,yO⟩=yP (yE yJ (nu k1))∧W.cell? ⟨w.heap.size,2,yO⟩=yP (yE yJ (nu m))∧W.cell? ⟨w.heap.size,3,yO⟩=yP (yB yO)∧W.cell? ⟨w.heap.size,4,yO⟩=yP (yA key)∧W.cell? ⟨w.heap.size,5,yO⟩=yP (yE yJ hsp)) (w1.alloc (yL #[yA yj,yA yj] 52))):=yN (⟨dJ.cell HS.o.1,dJ.cell HS.o.2.1,dJ.cell HS.o.2.2.1,dJ.cell HS.o.2.2.2.1,dJ.cell HS.o.2.2.2.2.1,dJ.cell HS.o.2.2.2.2.2⟩);clear HS s0 s1 s2 s3 s4 s5;have HS:=aF;clear aF;obtain⟨s0,s1,s2,s3,s4,s5⟩:=id HS.o;clear hk dJ aA HC HK;go_wp2_with fail;generalize w1.alloc _=wz at *;cases hQ:Q i with
   | none=>
    refine (BF b i P Q _ gL.o.h0 cY hQ).mono ?_;rintro e w2 ⟨rfl,hk⟩;have bK:=yN (gL.o.kept hk);have aH:=yN (aB aJ.o hk);clear hk gL aJ;go_wp2_with fail;go_ret2;unfold xE;have hj:join (bN k0 k1 m) lvl fs key=yO:=by rw [BC,pQ.o,bK.o.h3 i hP hQ];rfl
    refine⟨b,_,rfl,?_,aH.o,fun _=>⟨rfl,hj⟩⟩;rw [qG _ _ _ hj];exact bK.o.ct
   | some k=>
    refine (BA b i k P Q _ gL.o.h0 cY hQ).mono ?_;rintro e w2 ⟨rfl,hk⟩;have bK:=yN (gL.o.kept hk);have aH:=yN (aB aJ.o hk);have aF:=yN (yd (hk.cell HS.o.1) (yd (hk.cell HS.o.2.1) (yd (hk.cell HS.o.2.2.1) (yd (hk.cell HS.o.2.2.2.1) (yd (hk.cell HS.o.2.2.2.2.1) (hk.cell HS.o.2.2.2.2.2))))));clear HS s0 s1 s2 s3 s4 s5;have HS:=aF;clear aF;obtain⟨s0,s1,s2,s3,s4,s5⟩:=id HS.o;clear hk gL aJ;go_wp2_with fail;refine (n4.o k (fs i) _ (bK.o.h2 i k hQ) MC.o).mono ?_;rintro e w3 ⟨c1,g,rfl,dK,hk,hch⟩;have HT:=yN dK;have nC:=yN hch;have kC:=yN (bK.o.kept hk);have aL:=yN (aB aH.o hk);have aF:=yN (yd (hk.cell HS.o.1) (yd (hk.cell HS.o.2.1) (yd (hk.cell HS.o.2.2.1) (yd (hk.cell HS.o.2.2.2.1) (yd (hk.cell HS.o.2.2.2.2.1) (hk.cell HS.o.2.2.2.2.2))))));clear HS s0 s1 s2 s3 s4 s5;have HS:=aF;clear aF;obtain⟨s0,s1,s2,s3,s4,s5⟩:=id HS.o;clear hk dK hch bK aH;cases g with
    | false=>
     have HV:=yN (nC.o rfl).2;clear nC;go_wp2_with fail;go_ret2;unfold xE;have hj:join (bN k0 k1 m) lvl fs key=yO:=by rw [BC,pQ.o];exact HV.o
     refine⟨b,_,rfl,?_,aL.o,fun _=>⟨rfl,hj⟩⟩;rw [qG _ _ _ hj];exact kC.o.ct
    | true=>
     clear nC;go_wp2_with fail;refine (aVK (bN k0 k1 m) (lvl+1) c1 _ _ HT.o (MC.o.off key)).mono ?_;rintro e w4 ⟨hk,⟨rfl⟩ | ⟨q,rfl,zE⟩⟩
     ·have aA:Kept w4 (w4.alloc (yL #[yA yj,yA yj] 52)):=(yk _ _).alloc (ye _) _;have dJ:=aB hk aA;have HT4:=yN (HT.o.kept dJ);have jH:=yN (kC.o.kept dJ);have aR:=yN (aB aL.o dJ);have aF:Hid ((fun W:World=>W.cell? ⟨w.heap.size,0,yO⟩=yP (yE yJ (nu k0))∧W.cell? ⟨w.heap.size,1,yO⟩=yP (yE yJ (nu k1))∧W.cell? ⟨w.heap.size,2,yO⟩=yP (yE yJ (nu m))∧W.cell? ⟨w.heap.size,3,yO⟩=yP (yB yO)∧W.cell? ⟨w.heap.size,4,yO⟩=yP (yA key)∧W.cell? ⟨w.heap.size,5,yO⟩=yP (yE yJ hsp)) (w4.alloc (yL #[yA yj,yA yj] 52))):=yN (⟨dJ.cell HS.o.1,dJ.cell HS.o.2.1,dJ.cell HS.o.2.2.1,dJ.cell HS.o.2.2.2.1,dJ.cell HS.o.2.2.2.2.1,dJ.cell HS.o.2.2.2.2.2⟩);clear HS s0 s1 s2 s3 s4 s5;have HS:=aF;clear aF;obtain⟨s0,s1,s2,s3,s4,s5⟩:=id HS.o;clear hk dJ aA kC aL;go_wp2_with fail;refine (FZ b i c1 P Q _ jH.o.h0 jH.o.dis cY).mono ?_;rintro e w5 ⟨c,rfl,hn,hk⟩;have OL:=yN hn;have sL:=yN (jH.o.kept hk);have pR:=yN (HT4.o.kept hk);have bI:=yN (aB aR.o hk);clear hn hk s0 s1 s2 s3 s4 s5;go_wp2;go_ret2;unfold xE;exact⟨c,_,rfl,C9 sL.o pQ.o OL.o (.inr (.inl ⟨c1,rfl,rfl,pR.o⟩)),bI.o,fun e=>by cases e⟩
     have aA:Kept w4 (w4.alloc (yL #[yA q.1,yA q.2] 52)):=(yk _ _).alloc (ye _) _;have dJ:=aB hk aA;have BW:=yN zE;have jH:=yN (kC.o.kept dJ);have aR:=yN (aB aL.o dJ);have aF:Hid ((fun W:World=>W.cell? ⟨w.heap.size,0,yO⟩=yP (yE yJ (nu k0))∧W.cell? ⟨w.heap.size,1,yO⟩=yP (yE yJ (nu k1))∧W.cell? ⟨w.heap.size,2,yO⟩=yP (yE yJ (nu m))∧W.cell? ⟨w.heap.size,3,yO⟩=yP (yB yO)∧W.cell? ⟨w.heap.size,4,yO⟩=yP (yA key)∧W.cell? ⟨w.heap.size,5,yO⟩=yP (yE yJ hsp)) (w4.alloc (yL #[yA q.1,yA q.2] 52))):=yN (⟨dJ.cell HS.o.1,dJ.cell HS.o.2.1,dJ.cell HS.o.2.2.1,dJ.cell HS.o.2.2.2.1,dJ.cell HS.o.2.2.2.2.1,dJ.cell HS.o.2.2.2.2.2⟩);clear HS s0 s1 s2 s3 s4 s5;have HS:=aF;clear aF;obtain⟨s0,s1,s2,s3,s4,s5⟩:=id HS.o;clear hk dJ aA kC aL zE;go_wp2_with fail;refine (CX b i q P Q _ jH.o.h0 jH.o.dis cY).mono ?_;rintro e w5 ⟨c,rfl,hn,hk⟩;have OL:=yN hn;have sL:=yN (jH.o.kept hk);have bI:=yN (aB aR.o hk);clear hn hk s0 s1 s2 s3 s4 s5;go_wp2;go_ret2;unfold xE;exact⟨c,_,rfl,C9 sL.o pQ.o OL.o (.inl ⟨q,rfl,rfl,BW.o⟩),bI.o,fun e=>by cases e⟩
end
section
open Sip
attribute [local irreducible] five look
theorem aYT (hs:Key→Nat) (w:World) (b:Nat) (h:NS w b (fun _=>yO) (fun _=>yO)):CT hs w 0 b none_:=by
 have:=(WQ hs w 0 b (by decide) h).ct;rw [aUC] at this;exact this
theorem aRJ (w:World):Calls yM 223 #[] w fun e w'=>∃ c,e = .returned (yB (yP ⟨c,0,yO⟩))∧(∀ hs,CT hs w' 0 c none_)∧Kept w w':=by
 go_enter func223,ntmps223;go_wp2_with fail;refine (JV _).mono ?_;rintro e w' ⟨c,rfl,hn,hk⟩;have HN:=yN (yd hn hk);clear hn hk;go_wp2;go_ret;exact⟨c,rfl,fun hs=>aYT hs _ _ HN.o.1,HN.o.2⟩
def a6B (hs:Key→Nat) (f:Mp) (w:World) (e:Ending) (w':World):Prop:=
 ∃ c a,e = .returned (.tuple #[yB (yP ⟨c,0,yO⟩),yD a])∧CT hs w' 0 c f∧Kept w w'
def a34 (hs:Key→Nat) (f:Mp) (b:Nat) (w:World) (e:Ending) (w':World):Prop:=
 ∃ c a,e = .returned (.tuple #[yB (yP ⟨c,0,yO⟩),yD a])∧CT hs w' 0 c f∧Kept w w'∧(a=false→c=b)
theorem aYU (k0 k1 m:UInt64) (p:Pr) (b:Nat) (f:Mp) (w:World) (hp:p.1.size≤1000) (h:CT (bN k0 k1 m) w 0 b f) (hf:aM f 1000) :
  Calls yM 164 #[hv k0 k1 m,yB yO,yB (yP ⟨b,0,yO⟩),yF #[yA p.1,yA p.2]] w (a6B (bN k0 k1 m) (upd f p.1 (yP p.2)) w):=by
 have HC:=yN (yd h hf);clear h hf;have E2:=fun w h hf=>aVJ k0 k1 m p hp 13 0 b f w rfl h hf;unfold wk at E2;obtain⟨hsp,iK⟩:∃ x,x=bN k0 k1 m p.1:=⟨_,rfl⟩;rw [← iK] at E2;have HH:=yN iK;have TM:=yN E2;clear iK E2;show Calls yM 164 #[yF #[yE yJ (nu k0),yE yJ (nu k1),yE yJ (nu m)],yB yO,yB (yP ⟨b,0,yO⟩),yF #[yA p.1,yA p.2]] w _;go_enter func164,ntmps164;go_wp2_with fail;obtain⟨hA,hB,bF⟩:=dF w (yL #[yE yJ (nu k0),yE yJ (nu k1),yE yJ (nu m)] 26) (yL #[yA p.1,yA p.2] 52);have HB:=yN (yd hA hB);have bG:=yN bF;clear hA hB bF;generalize (w.alloc _).alloc _=w0 at *;have aP:=yN (dY bG.o);refine cP (fun W:World=>W.cell? ⟨w.heap.size,0,yO⟩=yP (yE yJ (nu k0))∧W.cell? ⟨w.heap.size,1,yO⟩=yP (yE yJ (nu k1))∧W.cell? ⟨w.heap.size,2,yO⟩=yP (yE yJ (nu m))∧W.cell? ⟨w.heap.size+1,0,yO⟩=yP (yA p.1)∧W.cell? ⟨w.heap.size+1,1,yO⟩=yP (yA p.2)) 10 11 ⟨aG HB.o.1 rfl,aG HB.o.1 rfl,aG HB.o.1 rfl,aG HB.o.2 rfl,aG HB.o.2 rfl⟩ fun HS=>?_;clear bG HB;generalize w0.drew=wd at *;refine tM 1 HS ?_;refine tM 2 HS ?_;refine tM 5 HS ?_;refine lM 0 HS ?_;go_frame;refine lM 3 HS ?_;go_frame;refine lM 4 HS ?_;go_frame;refine lM 6 HS ?_;go_frame;have tB:Hid (w.heap.size+1<wd.heap.size):=yN (mU HS.o.2.2.2.1);refine QX (x:=7) (y:=9) (by kernel_rfl) rfl rfl (fun K hK=>?_) (fun K hK=>?_)
 ·go_simp;refine (GJ k0 k1 m p.1 _ hp).mono ?_;rintro e wa ⟨rfl,hk⟩;have aF:=yN (yd (hk.cell HS.o.1) (yd (hk.cell HS.o.2.1) (yd (hk.cell HS.o.2.2.1) (yd (hk.cell HS.o.2.2.2.1) (hk.cell HS.o.2.2.2.2)))));rw [← HH.o];have AG:=yN (aB aP.o hk);have xT:Hid (w.heap.size+1<wa.heap.size):=yN (yi tB.o hk.size);refine hK _ _ (.inr aF.o) ?_;clear hK K HS hk aP;have HS:=aF;clear aF;clear tB;refine tM 8 HS ?_;go_frame;refine oM 9 fun K hK=>?_;go_simp;have aA:Kept wa (wa.alloc (yL #[yE yJ 0,yE yJ 0,yE yJ 0,yB yO,yA ⟨#[]⟩,yE yJ 0] 323)):=(yk _ _).alloc (ye _) _;have HZ:=yN (bM wa (yL #[yE yJ 0,yE yJ 0,yE yJ 0,yB yO,yA ⟨#[]⟩,yE yJ 0] 323));have HKb:=yN (aB AG.o aA);have nJ:=yN AG.o.size;have aF:Hid ((fun W:World=>W.cell? ⟨w.heap.size,0,yO⟩=yP (yE yJ (nu k0))∧W.cell? ⟨w.heap.size,1,yO⟩=yP (yE yJ (nu k1))∧W.cell? ⟨w.heap.size,2,yO⟩=yP (yE yJ (nu m))∧W.cell? ⟨w.heap.size+1,0,yO⟩=yP (yA p.1)∧W.cell? ⟨w.heap.size+1,1,yO⟩=yP (yA p.2)) (wa.alloc (yL #[yE yJ 0,yE yJ 0,yE yJ 0,yB yO,yA ⟨#[]⟩,yE yJ 0] 323))):=yN (⟨aA.cell HS.o.1,aA.cell HS.o.2.1,aA.cell HS.o.2.2.1,aA.cell HS.o.2.2.2.1,aA.cell HS.o.2.2.2.2⟩);refine hK _ _ (.inr aF.o) ?_;clear hK K HS aA AG;have HS:=aF;clear aF;generalize wa.alloc _=wb at *;generalize wa.heap.size=xb at *;have ZV:=xT;clear xT;have z0:wb.cell? ⟨xb,0,yO⟩=yP (yE yJ 0):=aG HZ.o rfl;have f0:wb.frozen? ⟨xb,0,yO⟩=false:=aU HZ.o;have z1:wb.cell? ⟨xb,1,yO⟩=yP (yE yJ 0):=aG HZ.o rfl;have f1:wb.frozen? ⟨xb,1,yO⟩=false:=aU HZ.o;have z2:wb.cell? ⟨xb,2,yO⟩=yP (yE yJ 0):=aG HZ.o rfl;have f2:wb.frozen? ⟨xb,2,yO⟩=false:=aU HZ.o;have z3:wb.cell? ⟨xb,3,yO⟩=yP (yB yO):=aG HZ.o rfl;have f3:wb.frozen? ⟨xb,3,yO⟩=false:=aU HZ.o;have z4:wb.cell? ⟨xb,4,yO⟩=yP (yA ⟨#[]⟩):=aG HZ.o rfl;have f4:wb.frozen? ⟨xb,4,yO⟩=false:=aU HZ.o;have z5:wb.cell? ⟨xb,5,yO⟩=yP (yE yJ 0):=aG HZ.o rfl;have f5:wb.frozen? ⟨xb,5,yO⟩=false:=aU HZ.o;refine oM 10 fun K hK=>?_;go_simp;refine hK _ _ (.inl (by kernel_rfl)) ?_;clear hK K z0 f0 z1 f1 z2 f2 z3 f3 z4 f4 z5 f5;have hX:((((((wb.setCell ⟨xb,0,yO⟩ (yE yJ (nu k0))).setCell ⟨xb,1,yO⟩ (yE yJ (nu k1))).setCell ⟨xb,2,yO⟩ (yE yJ (nu m))).setCell ⟨xb,3,yO⟩ (yB yO)).setCell ⟨xb,4,yO⟩ (yA p.1)).setCell ⟨xb,5,yO⟩ (yE yJ hsp)).heap[xb]?=yP (yL #[yE yJ (nu k0),yE yJ (nu k1),yE yJ (nu m),yB yO,yA p.1,yE yJ hsp] 323 (0,0)):=heap_setCell (o:=5) (v:=yE yJ hsp) (heap_setCell (o:=4) (v:=yA p.1) (heap_setCell (o:=3) (v:=yB yO) (heap_setCell (o:=2) (v:=yE yJ (nu m)) (heap_setCell (o:=1) (v:=yE yJ (nu k1)) (heap_setCell (o:=0) (v:=yE yJ (nu k0)) (HZ.o))))));have hK':Kept w ((((((wb.setCell ⟨xb,0,yO⟩ (yE yJ (nu k0))).setCell ⟨xb,1,yO⟩ (yE yJ (nu k1))).setCell ⟨xb,2,yO⟩ (yE yJ (nu m))).setCell ⟨xb,3,yO⟩ (yB yO)).setCell ⟨xb,4,yO⟩ (yA p.1)).setCell ⟨xb,5,yO⟩ (yE yJ hsp)):=Below.setCell (Below.setCell (Below.setCell (Below.setCell (Below.setCell (Below.setCell (HKb.o) nJ.o _) nJ.o _) nJ.o _) nJ.o _) nJ.o _) nJ.o _;have hgr:(wb).grownBy ((((((wb.setCell ⟨xb,0,yO⟩ (yE yJ (nu k0))).setCell ⟨xb,1,yO⟩ (yE yJ (nu k1))).setCell ⟨xb,2,yO⟩ (yE yJ (nu m))).setCell ⟨xb,3,yO⟩ (yB yO)).setCell ⟨xb,4,yO⟩ (yA p.1)).setCell ⟨xb,5,yO⟩ (yE yJ hsp)) (yP xb):=eU xb [yE yJ (nu k0),yE yJ (nu k1),yE yJ (nu m),yB yO,yA p.1,yE yJ hsp] 0 wb;have hx1:yP (w.heap.size+1)≠yP xb:=by have:=ZV.o;simp;omega
  have hP0:=eG hgr HS.o.2.2.2.1 hx1;have hP1:=eG hgr HS.o.2.2.2.2 hx1;have HCk:=yN (HC.o.1.kept hK');have HX:=yN (yd hX (yd hP0 hP1));have AH:=yN hK';clear hX hK' hgr hx1 hP0 hP1 HS HKb;refine cM ?_;generalize ((((((wb.setCell _ _).setCell _ _).setCell _ _).setCell _ _).setCell _ _).setCell _ _)=wt at *;go_wp2_with fail;have eF:=yN (dY AH.o);have HCy:Hid (CT (bN k0 k1 m) wt.drew 0 b f):=yN (HCk.o.kept (ym (yk _ _)));refine cP (fun W:World=>W.cell? ⟨xb,0,yO⟩=yP (yE yJ (nu k0))∧W.cell? ⟨xb,1,yO⟩=yP (yE yJ (nu k1))∧W.cell? ⟨xb,2,yO⟩=yP (yE yJ (nu m))∧W.cell? ⟨xb,3,yO⟩=yP (yB yO)∧W.cell? ⟨xb,4,yO⟩=yP (yA p.1)∧W.cell? ⟨xb,5,yO⟩=yP (yE yJ hsp)∧W.cell? ⟨w.heap.size+1,0,yO⟩=yP (yA p.1)∧W.cell? ⟨w.heap.size+1,1,yO⟩=yP (yA p.2)) 11 12 ⟨aG HX.o.1 rfl,aG HX.o.1 rfl,aG HX.o.1 rfl,aG HX.o.1 rfl,aG HX.o.1 rfl,aG HX.o.1 rfl,HX.o.2.1,HX.o.2.2⟩ fun HS=>?_;clear HX AH HCk;generalize wt.drew=wu at *;refine tM 1 HS ?_;refine lM 0 HS ?_;refine lM 3 HS ?_;go_frame;refine oM 2 fun K hK=>?_;go_simp;refine (Q6 b _).mono ?_;rintro e w' ⟨rfl,rfl⟩;refine hK _ _ (.inr HS.o) ?_;clear hK K;refine oM 4 fun K hK=>?_;go_simp;refine (TM.o _ HCy.o HC.o.2).mono ?_;rintro e wv ⟨c,ad,ch,rfl,dK,hk,hch⟩;have aF:=yN (aD (aD (aD (aD (aD (aD (aD bL)))))) hk HS.o);have HT:=yN dK;have HKv:=yN (aB eF.o hk);refine hK _ _ (.inr aF.o) ?_;clear hK K HS dK hk hch eF HCy;have HS:=aF;clear aF;refine tM 5 HS ?_;go_frame;refine tM 6 HS ?_;go_frame;refine tM 7 HS ?_;go_frame;refine tM 8 HS ?_;go_frame;refine oM 9 fun K hK=>?_;go_simp;refine hK _ _ (.inr HS.o) ?_;clear hK K;refine oM 10 fun K hK=>?_;go_simp;refine hK _ _ (.inr HS.o) ?_;clear hK K;refine oM 11 fun K hK=>?_;go_simp;refine hK _ _ (.inl (by kernel_rfl)) ?_;clear hK K;refine uX (by kernel_rfl) ?_ _;go_wp2;go_ret2;exact⟨c,ad,rfl,HT.o,HKv.o⟩
 go_simp;have aA:Kept wd (wd.alloc (yL #[yE yJ 0,yE yJ 0,yE yJ 0,yB yO,yA ⟨#[]⟩,yE yJ 0] 323)):=(yk _ _).alloc (ye _) _;have HZ:=yN (bM wd (yL #[yE yJ 0,yE yJ 0,yE yJ 0,yB yO,yA ⟨#[]⟩,yE yJ 0] 323));have AG:=yN (aB aP.o aA);have nJ:=yN aP.o.size;have aF:Hid ((fun W:World=>W.cell? ⟨w.heap.size,0,yO⟩=yP (yE yJ (nu k0))∧W.cell? ⟨w.heap.size,1,yO⟩=yP (yE yJ (nu k1))∧W.cell? ⟨w.heap.size,2,yO⟩=yP (yE yJ (nu m))∧W.cell? ⟨w.heap.size+1,0,yO⟩=yP (yA p.1)∧W.cell? ⟨w.heap.size+1,1,yO⟩=yP (yA p.2)) (wd.alloc (yL #[yE yJ 0,yE yJ 0,yE yJ 0,yB yO,yA ⟨#[]⟩,yE yJ 0] 323))):=yN (⟨aA.cell HS.o.1,aA.cell HS.o.2.1,aA.cell HS.o.2.2.1,aA.cell HS.o.2.2.2.1,aA.cell HS.o.2.2.2.2⟩);refine hK _ _ (.inr aF.o) ?_;clear hK K HS aA aP;have HS:=aF;clear aF;generalize wd.alloc _=wa at *;generalize wd.heap.size=xb at *;have ZV:=tB;clear tB;refine oM 7 fun K hK=>?_;go_simp;refine (GJ k0 k1 m p.1 _ hp).mono ?_;rintro e wb ⟨rfl,hk⟩;have aF:=yN (yd (hk.cell HS.o.1) (yd (hk.cell HS.o.2.1) (yd (hk.cell HS.o.2.2.1) (yd (hk.cell HS.o.2.2.2.1) (hk.cell HS.o.2.2.2.2)))));rw [← HH.o];have HKb:=yN (aB AG.o hk);have HZn:=yN ((hk.block xb (yo.1 HZ.o).1).trans HZ.o);clear HZ;have HZ:=HZn;clear HZn;refine hK _ _ (.inr aF.o) ?_;clear hK K HS hk AG;have HS:=aF;clear aF;refine tM 8 HS ?_;go_frame;have z0:wb.cell? ⟨xb,0,yO⟩=yP (yE yJ 0):=aG HZ.o rfl;have f0:wb.frozen? ⟨xb,0,yO⟩=false:=aU HZ.o;have z1:wb.cell? ⟨xb,1,yO⟩=yP (yE yJ 0):=aG HZ.o rfl;have f1:wb.frozen? ⟨xb,1,yO⟩=false:=aU HZ.o;have z2:wb.cell? ⟨xb,2,yO⟩=yP (yE yJ 0):=aG HZ.o rfl;have f2:wb.frozen? ⟨xb,2,yO⟩=false:=aU HZ.o;have z3:wb.cell? ⟨xb,3,yO⟩=yP (yB yO):=aG HZ.o rfl;have f3:wb.frozen? ⟨xb,3,yO⟩=false:=aU HZ.o;have z4:wb.cell? ⟨xb,4,yO⟩=yP (yA ⟨#[]⟩):=aG HZ.o rfl;have f4:wb.frozen? ⟨xb,4,yO⟩=false:=aU HZ.o;have z5:wb.cell? ⟨xb,5,yO⟩=yP (yE yJ 0):=aG HZ.o rfl;have f5:wb.frozen? ⟨xb,5,yO⟩=false:=aU HZ.o;refine oM 10 fun K hK=>?_;go_simp;refine hK _ _ (.inl (by kernel_rfl)) ?_;clear hK K z0 f0 z1 f1 z2 f2 z3 f3 z4 f4 z5 f5;have hX:((((((wb.setCell ⟨xb,0,yO⟩ (yE yJ (nu k0))).setCell ⟨xb,1,yO⟩ (yE yJ (nu k1))).setCell ⟨xb,2,yO⟩ (yE yJ (nu m))).setCell ⟨xb,3,yO⟩ (yB yO)).setCell ⟨xb,4,yO⟩ (yA p.1)).setCell ⟨xb,5,yO⟩ (yE yJ hsp)).heap[xb]?=yP (yL #[yE yJ (nu k0),yE yJ (nu k1),yE yJ (nu m),yB yO,yA p.1,yE yJ hsp] 323 (0,0)):=heap_setCell (o:=5) (v:=yE yJ hsp) (heap_setCell (o:=4) (v:=yA p.1) (heap_setCell (o:=3) (v:=yB yO) (heap_setCell (o:=2) (v:=yE yJ (nu m)) (heap_setCell (o:=1) (v:=yE yJ (nu k1)) (heap_setCell (o:=0) (v:=yE yJ (nu k0)) (HZ.o))))));have hK':Kept w ((((((wb.setCell ⟨xb,0,yO⟩ (yE yJ (nu k0))).setCell ⟨xb,1,yO⟩ (yE yJ (nu k1))).setCell ⟨xb,2,yO⟩ (yE yJ (nu m))).setCell ⟨xb,3,yO⟩ (yB yO)).setCell ⟨xb,4,yO⟩ (yA p.1)).setCell ⟨xb,5,yO⟩ (yE yJ hsp)):=Below.setCell (Below.setCell (Below.setCell (Below.setCell (Below.setCell (Below.setCell (HKb.o) nJ.o _) nJ.o _) nJ.o _) nJ.o _) nJ.o _) nJ.o _;have hgr:(wb).grownBy ((((((wb.setCell ⟨xb,0,yO⟩ (yE yJ (nu k0))).setCell ⟨xb,1,yO⟩ (yE yJ (nu k1))).setCell ⟨xb,2,yO⟩ (yE yJ (nu m))).setCell ⟨xb,3,yO⟩ (yB yO)).setCell ⟨xb,4,yO⟩ (yA p.1)).setCell ⟨xb,5,yO⟩ (yE yJ hsp)) (yP xb):=eU xb [yE yJ (nu k0),yE yJ (nu k1),yE yJ (nu m),yB yO,yA p.1,yE yJ hsp] 0 wb;have hx1:yP (w.heap.size+1)≠yP xb:=by have:=ZV.o;simp;omega
 have hP0:=eG hgr HS.o.2.2.2.1 hx1;have hP1:=eG hgr HS.o.2.2.2.2 hx1;have HCk:=yN (HC.o.1.kept hK');have HX:=yN (yd hX (yd hP0 hP1));have AH:=yN hK';clear hX hK' hgr hx1 hP0 hP1 HS HKb;refine cM ?_;generalize ((((((wb.setCell _ _).setCell _ _).setCell _ _).setCell _ _).setCell _ _).setCell _ _)=wt at *;go_wp2_with fail;have eF:=yN (dY AH.o);have HCy:Hid (CT (bN k0 k1 m) wt.drew 0 b f):=yN (HCk.o.kept (ym (yk _ _)));refine cP (fun W:World=>W.cell? ⟨xb,0,yO⟩=yP (yE yJ (nu k0))∧W.cell? ⟨xb,1,yO⟩=yP (yE yJ (nu k1))∧W.cell? ⟨xb,2,yO⟩=yP (yE yJ (nu m))∧W.cell? ⟨xb,3,yO⟩=yP (yB yO)∧W.cell? ⟨xb,4,yO⟩=yP (yA p.1)∧W.cell? ⟨xb,5,yO⟩=yP (yE yJ hsp)∧W.cell? ⟨w.heap.size+1,0,yO⟩=yP (yA p.1)∧W.cell? ⟨w.heap.size+1,1,yO⟩=yP (yA p.2)) 11 12 ⟨aG HX.o.1 rfl,aG HX.o.1 rfl,aG HX.o.1 rfl,aG HX.o.1 rfl,aG HX.o.1 rfl,aG HX.o.1 rfl,HX.o.2.1,HX.o.2.2⟩ fun HS=>?_;clear HX AH HCk;generalize wt.drew=wu at *;refine tM 1 HS ?_;refine lM 0 HS ?_;refine lM 3 HS ?_;go_frame;refine oM 2 fun K hK=>?_;go_simp;refine (Q6 b _).mono ?_;rintro e w' ⟨rfl,rfl⟩;refine hK _ _ (.inr HS.o) ?_;clear hK K;refine oM 4 fun K hK=>?_;go_simp;refine (TM.o _ HCy.o HC.o.2).mono ?_;rintro e wv ⟨c,ad,ch,rfl,dK,hk,hch⟩;have aF:=yN (aD (aD (aD (aD (aD (aD (aD bL)))))) hk HS.o);have HT:=yN dK;have HKv:=yN (aB eF.o hk);refine hK _ _ (.inr aF.o) ?_;clear hK K HS dK hk hch eF HCy;have HS:=aF;clear aF;refine tM 5 HS ?_;refine tM 6 HS ?_;refine tM 7 HS ?_;refine tM 8 HS ?_;go_frame;refine oM 9 fun K hK=>?_;go_simp;refine hK _ _ (.inr HS.o) ?_;clear hK K;refine oM 10 fun K hK=>?_;go_simp;refine hK _ _ (.inr HS.o) ?_;clear hK K;refine oM 11 fun K hK=>?_;go_simp;refine hK _ _ aX ?_;clear hK K;refine cM ?_;go_wp2;go_ret2;exact⟨c,ad,rfl,HT.o,HKv.o⟩
theorem aVL (k0 k1 m:UInt64) (key:Key) (b:Nat) (f:Mp) (w:World) (hs:key.size≤1000) (h:CT (bN k0 k1 m) w 0 b f) (hf:aM f 1000) :
  Calls yM 166 #[hv k0 k1 m,yB yO,yB (yP ⟨b,0,yO⟩),yA key] w (a34 (bN k0 k1 m) (upd f key yO) b w):=by
 have HC:=yN (yd h hf);clear h hf;have E2:=fun w h hf=>aS4 k0 k1 m key 13 0 b f w rfl h hf;unfold wk at E2;obtain⟨hsp,iK⟩:∃ x,x=bN k0 k1 m key:=⟨_,rfl⟩;rw [← iK] at E2;have HH:=yN iK;have TM:=yN E2;clear iK E2;show Calls yM 166 #[yF #[yE yJ (nu k0),yE yJ (nu k1),yE yJ (nu m)],yB yO,yB (yP ⟨b,0,yO⟩),yA key] w _;go_enter func166,ntmps166;go_wp2_with fail;have hA:=bM w (yL #[yE yJ (nu k0),yE yJ (nu k1),yE yJ (nu m)] 26);have bF:=aZ w (yL #[yE yJ (nu k0),yE yJ (nu k1),yE yJ (nu m)] 26);have HB:=yN hA;have bG:=yN bF;clear hA bF;generalize w.alloc _=w0 at *;refine (Q6 b _).mono ?_;rintro e w' ⟨rfl,rfl⟩;go_wp2_with fail;have aP:=yN (dY bG.o);have HCd:=yN (HC.o.1.kept (ym bG.o));refine cP (fun W:World=>W.cell? ⟨w.heap.size,0,yO⟩=yP (yE yJ (nu k0))∧W.cell? ⟨w.heap.size,1,yO⟩=yP (yE yJ (nu k1))∧W.cell? ⟨w.heap.size,2,yO⟩=yP (yE yJ (nu m))) 12 13 ⟨aG HB.o rfl,aG HB.o rfl,aG HB.o rfl⟩ fun HS=>?_;clear bG HB;generalize w0.drew=wd at *;refine tM 1 HS ?_;refine tM 2 HS ?_;refine tM 4 HS ?_;refine tM 7 HS ?_;refine lM 0 HS ?_;refine lM 3 HS ?_;go_frame;refine oM 5 fun K hK=>?_;go_simp;refine (GJ k0 k1 m key _ hs).mono ?_;rintro e wa ⟨rfl,hk⟩;have aF:=yN (aD (aD bL) hk HS.o);rw [← HH.o];have aJ:=yN (aB aP.o hk);have gL:=yN (HCd.o.kept hk);refine hK _ _ (.inr aF.o) ?_;clear hK K HS hk aP HCd;have HS:=aF;clear aF;refine tM 6 HS ?_;go_frame;refine oM 8 fun K hK=>?_;go_simp;refine (TM.o _ gL.o HC.o.2).mono ?_;rintro e wb ⟨c,g,rfl,dK,hk,hch⟩;have aF:=yN (aD (aD bL) hk HS.o);have HT:=yN dK;have nC:=yN hch;have aH:=yN (aB aJ.o hk);refine hK _ _ (.inr aF.o) ?_;clear hK K HS dK hk hch aJ gL;have HS:=aF;clear aF;refine tM 9 HS ?_;refine tM 10 HS ?_;go_frame;refine oM 11 fun K hK=>?_;go_simp;refine hK _ _ (.inr HS.o) ?_;clear hK K;refine oM 12 fun K hK=>?_;go_simp;refine hK _ _ aX ?_;clear hK K;refine cM ?_;go_wp2;go_ret2;exact⟨c,g,rfl,HT.o,aH.o,fun e=>(nC.o e).1⟩
end
end Go.Proofs.YtcldomgdkhenpaaGreat
