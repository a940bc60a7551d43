/- Lemmas. -/
import Derived.Test.YtcldomgdkhenpaaGreatJ15
import Derived.Test.YtcldomgdkhenpaaGreatJ19
set_option linter.unusedVariables false
set_option maxRecDepth 1000000
set_option maxHeartbeats 40000000
open Go.Proofs.Tryz
open Go.Proofs.Tryz renaming prog → yM
open Go.Value renaming string → yA,pointer → yB,slice → yC,bool → yD,int → yE,agg → yF,func → yG
open Go.IntKind renaming i64 → yH,u32 → yI,u8 → yK
open Go.Obj renaming cells → yL
open Option renaming none → yO,some → yP
open Go.Lib renaming hid → yN
open And renaming intro → yd
open Array renaming getElem?_eq_some_iff → yo
open ByteArray renaming empty → yj
open Go.RowKit.Below renaming drew → ym,heap_setCell → yl,refl → yk,trans → yn
open Go.World renaming cell?_of_block → zn
open List renaming append_assoc → zf,append_nil → zi,length_append → yy,length_cons → zh,mem_append → za,mem_cons → yx,mem_map → zj,not_mem_nil → zc,pairwise_cons → yz
open Nat renaming le_refl → ye,le_trans → yf,lt_of_lt_of_le → yi
open Go.RowKit
namespace Go.Proofs.YtcldomgdkhenpaaGreat
section
open Go.Shelf
attribute [local go_sem] Oper.semAt_some
variable {n i cb B B0:Nat} {Z Y:Nat→Bool} {wv fJ:Value} {W W':World}
def G5 (Z:Nat→Bool) (n:Nat):Nat→Bool:=fun i=>Z i && decide (i<n)
theorem Q3:G5 Z n i=true↔Z i=true∧i<n:=by unfold G5;simp
theorem aE8 (h:n≤i):G5 Z n i=false:=by
 cases e:G5 Z n i with
 | false=>rfl
 | true=>have:=(Q3.1 e).2;omega
theorem aYO (Z:Nat→Bool) (w:World) (b d n:Nat) (lab:Key) (xs:List Pr) (hr:RL (bO Z w) d n b lab lab xs) :
  Calls yM 214 #[yB (yP ⟨b,0,yO⟩),yF #[yA ⟨#[]⟩,yA ⟨#[]⟩,yD true],yD false] w fun e w'=>∃ cb sv,e = .returned (yB (yP ⟨cb,0,yO⟩))∧iV w.heap.size (G5 Z w.heap.size) w' cb sv [⟨b,yj,false,n,d,xs⟩]∧Kept w w':=by
 obtain⟨i0,bS,hz0,hzs,hzb⟩:=info_parts aI4;have HR:=yN hr;obtain⟨w1,cR⟩:∃ w1,w1=w.alloc (yL #[yA ⟨#[]⟩,yA ⟨#[]⟩,yD true] 44):=⟨_,rfl⟩;obtain⟨w2,hw2⟩:∃ w2,w2=w1.alloc (yL #[yC yO 0 0,yA ⟨#[]⟩,yA ⟨#[]⟩,yD true,yD false] 371):=⟨_,rfl⟩;obtain⟨w3,hw3⟩:∃ w3,w3=w2.alloc (yL #[yB (yP ⟨b,0,yO⟩),yA ⟨#[]⟩,yD false] 373):=⟨_,rfl⟩;have k1:Kept w w1:=by rw [cR];exact (yk _ _).alloc (ye _) _
 have k2:Kept w1 w2:=by rw [hw2];exact (yk _ _).alloc (ye _) _
 have k3:Kept w2 w3:=by rw [hw3];exact (yk _ _).alloc (ye _) _
 have b2:w2.heap[w1.heap.size]?=yP (yL #[yC yO 0 0,yA ⟨#[]⟩,yA ⟨#[]⟩,yD true,yD false] 371):=by rw [hw2];exact bM _ _
 have s1:w1.heap.size=w.heap.size+1:=by rw [cR];exact World.size_alloc _ _
 have s2:w2.heap.size=w1.heap.size+1:=by rw [hw2];exact World.size_alloc _ _
 have s3:w3.heap.size=w2.heap.size+1:=by rw [hw3];exact World.size_alloc _ _
 have b3:=(k3.block w1.heap.size (by omega)).trans b2;have ec:=ch 0 b2;have iH:=UK w2 (yB (yP ⟨b,0,yO⟩)) (yA ⟨#[]⟩) (yD false) 373;have h1c:∀ u∈[yB (yP ⟨b,0,yO⟩),yA ⟨#[]⟩,yD false],u.oneCell'=true:=by intro u hu;simp at hu;rcases hu with rfl | rfl | rfl <;> rfl
 rw [s1] at ec;rw [s1] at b3;have NT:=yN b3;have cJ:=yN (yd k1 (yd k2 k3));have wC:=yN (yd s1 (yd s2 s3));have EE:=World.ownsRow_nil w3 w.heap.size 373 3;have hZ:w.heap.size≤w3.heap.size:=by omega
 rw [← hw3] at iH;have hx2:w2.heap.size=w.heap.size+1+1:=by omega
 rw [hx2] at iH;subst hw3 hw2 cR;go_enter func214,ntmps214;go_wp2_with (at_builtin;refine wpList_append_own_at _ rfl _ _ 369 rfl w.heap.size 373 i0 (yF #[yB yO,yA yj,yD false]) 3 32 underlying369 bS hz0 hzs hzb rfl (by decide) _ _ _ rfl EE ⟨w.heap.size+1+1,0,yO⟩ 1 1 [yB (yP ⟨b,0,yO⟩),yA ⟨#[]⟩,yD false] rfl rfl iH h1c (by decide) (by omega) hZ ?_);intro v' w4 hown hgrow _ hat;obtain⟨va,vc,rfl⟩:=bW hown;have IA:=(hgrow.block (w.heap.size+1) (by have:=wC.o.2.2;omega) (by simp [Value.ownBlock])).trans NT.o;have ec4:=ch 0 IA;have fc4:=fh 0 IA;have HN:=yN (yd hown (yd hgrow (yd hat IA)));go_wp2_with fail;go_ret;obtain⟨hown,hgrow,hat,IA⟩:=HN.o;have bH:=hgrow.size;have k4:Kept w w4:=Below.grown (aB cJ.o.1 (aB cJ.o.2.1 cJ.o.2.2)) hgrow (by omega) (fun q hq=>by cases hq);obtain⟨w5,TH⟩:∃ w5,w5=w4.setCell ⟨w.heap.size+1,0,yO⟩ (yC va 1 vc):=⟨_,rfl⟩;rw [← TH];have k5:Kept w w5:=by rw [TH];exact k4.setCell (by show w.heap.size≤w.heap.size+1;omega) _
 have b5:∀ i,i≠w.heap.size+1→w5.heap[i]?=w4.heap[i]?:=fun i hi=>by rw [TH];exact yl _ _ _ _ (by simpa using hi)
 have c5:w5.heap[w.heap.size+1]?=yP (yL #[yC va 1 vc,yA ⟨#[]⟩,yA ⟨#[]⟩,yD true,yD false] 371):=by rw [TH];exact heap_setCell IA
 have hsz:=HR.o.size;refine⟨w.heap.size+1,yC va 1 vc,rfl,⟨c5,cF hown fun q hq=>b5 q (fun e=>?_),?_,aE8 (by omega),fun q hq=>aE8 (hown.lt q hq).1,fun i hi=>?_,by omega,?_⟩,k5⟩
 ·rw [e] at hq;exact fR hown IA (by decide) hq
 ·intro x hx;obtain rfl:x=_:=by simpa using hx
  refine⟨fun _=>⟨lab,?_⟩,fun e=>by cases e⟩;show RL _ d n b lab (yj++lab) xs;rw [wZ];exact HR.o.sub (BG fun i h1 h2=>⟨Q3.2 ⟨h1,h2⟩,k5.block i h2⟩)
 ·have:=(Q3.1 hi).2;have:=k5.size;omega
 exact⟨fun _=>by show 0+1≤257*(1001-d);omega,by show 0+1≤257*1002;omega,trivial⟩
theorem aVG {st gK:List Wk} (h:iV B Y W cb wv st) (h':iV B Y W' cb fJ gK) (hs:dR cb wv Y W fJ Y W') (hB:B0≤B):qK (XC B0 Y cb wv) (XC B0 Y cb fJ) W W':=by
 refine⟨hs.os,hs.tape,hs.output,hs.size,fun i hi hx=>?_,fun i hi=>?_⟩
 ·have uI:¬ (B0≤i∧(Y i=true∨i=cb∨wv.ownBlock=yP i)):=fun e=>by rw [mG.2 e] at hx;cases hx
  by_cases hb:B0≤i;·exact hs.same i hi (fun e=>uI ⟨hb,.inr (.inl e)⟩) (fun e=>uI ⟨hb,.inr (.inr e)⟩)
  exact hs.same i hi (fun e=>by have:=h.b;omega) (fun e=>by have:=(h.row.lt i e).1;omega)
 obtain⟨hb,hy⟩:=mG.1 hi;refine⟨h'.sU hy,?_⟩;rcases hy with hy | hy | hy
 ·exact .inl (mG.2 ⟨hb,.inl hy⟩)
 ·exact .inl (mG.2 ⟨hb,.inr (.inl hy)⟩)
 rcases hs.way i hy with e | e
 ·exact .inl (mG.2 ⟨hb,.inr (.inr e)⟩)
 exact .inr e
theorem aRI {st:List Wk} (h:iV B Y W cb wv st) (hs:dR cb wv Y W fJ Y W') (hB:B0≤B) (eB:B0≤W.heap.size):Below B0 W W':=
 ⟨hs.os,hs.tape,hs.output,hs.size,fun i hi=>hs.same i (by omega) (fun e=>by have:=h.b;omega) (fun e=>by have:=(h.row.lt i e).1;omega)⟩
theorem a1D (w0:World) (b d n:Nat) (lab:Key) (xs:List Pr) (x1 x2 x3 m:Nat) (hm:2≤m) (hr:RL w0 d n b lab lab xs) (c1:w0.cell? ⟨x1,0,yO⟩=yP (yB (yP ⟨b,0,yO⟩))) (c2:w0.cell? ⟨x2,0,yO⟩=yP (yA ⟨#[]⟩)) (c3:w0.cell? ⟨x2,1,yO⟩=yP (yA ⟨#[]⟩)) (c4:w0.cell? ⟨x2,2,yO⟩=yP (yD true))
  (c5:w0.cell? ⟨x3,0,yO⟩=yP (yD false)):ItC m w0 213 #[yB (yP ⟨x1,0,yO⟩),yB (yP ⟨x2,0,yO⟩),yB (yP ⟨x3,0,yO⟩)] xs:=by
 intro l J W hk hM hY h0;have c1:=hk.cell c1;have c2:=hk.cell c2;have c3:=hk.cell c3;have c4:=hk.cell c4;have c5:=hk.cell c5;have hZ:RL (bO (fun i=>decide (i<w0.heap.size)) W) d n b lab lab xs:=hr.sub (aJQ fun i hi=>⟨by simpa using hi,hk.block i hi⟩);refine callsIn_of_wp func213 rfl trivial ?_ rfl;simp only [ntmps213,List.size_toArray,zh,List.length_nil,Nat.reduceAdd,Nat.reduceSub,Array.replicate_succ,Array.replicate_zero,List.push_toArray,List.append_toArray,List.nil_append,List.cons_append];have HZ:=yN hZ;have HK:=yN hk;have H0:=yN h0
 gi_wp2
 refine⟨trivial,fun _=>by omega,(callsIn_wide.2 (aYO _ W b d n lab xs HZ.o)).mono ?_⟩;rintro e w1 ⟨cb,wv,rfl,fC,aS⟩;obtain⟨Y,hYd⟩:∃ Y,Y=G5 (fun i=>decide (i<w0.heap.size)) W.heap.size:=⟨_,rfl⟩;rw [← hYd] at fC;have oI:=HK.o.size;have N4:J (XC w0.heap.size Y cb wv) [] w1:=by
  refine hM _ _ _ _ _ H0.o ⟨aS.os,aS.tape,aS.output,aS.size,fun i hi _=>aS.block i hi,fun i hi=>?_⟩;obtain⟨h1,h2⟩:=mG.1 hi;refine⟨fC.sU h2,.inr ?_⟩;rcases h2 with h2 | rfl | h2
  ·rw [hYd] at h2;have:=(Q3.1 h2).1;simp at this;omega
  ·exact fC.b
  exact (fC.row.lt i h2).1
 have aJ:=yN (yn HK.o (aS.mono oI));have gL:=yN fC;have sS:=yN N4;have HM:=yN hM;have N5:=yN hY
 gi_wp2
 gi_loopg [] xs.length (fun kx wr=>∃ (wv:Value) (st:List Wk) (pre:List Pr),Hid ((jZ st).length≤kx)∧Hid (iV W.heap.size Y wr cb wv st)∧Hid (J (XC w0.heap.size Y cb wv) pre wr)∧Hid (xs=pre++jZ st)∧Hid (Kept w0 wr))
 case atStart=>exact⟨wv,_,[],yN (by show (xs ++ []).length≤_;rw [zi];exact ye _),gL,sS,yN (by show xs=[]++(xs ++ []);rw [zi];rfl),aJ⟩
 obtain⟨wv,st,pre,HL,HC,HJ,HX,k9⟩:=hrel;have hz:W.heap.size≤wr.heap.size:=by
  have:=HC.o.lt;have:=HC.o.b;omega
 gi_wp2
 refine⟨trivial,fun _=>by omega,(callsIn_wide.2 (aVF W.heap.size Y wr cb wv st HC.o hz)).mono ?_⟩;rintro e w2 ⟨fJ,gK,fC,hstep,hres⟩;have hmv:=aVG HC.o fC hstep oI;have N6:=yN (HM.o _ _ _ _ _ HJ.o hmv);have aH:=yN (yn k9.o (aRI HC.o hstep oI (yf oI hz)));have bK:=yN fC;rcases hres with ⟨he,rfl⟩ | ⟨p,he,rfl⟩
 ·have EW:=yN (HM.o _ _ _ _ _ N6.o (qK.alloc (yL #[yA yj,yA yj] 52) (fun i hi=>bK.o.sU (mG.1 hi).2)));have aL:=yN (aH.o.alloc (yf oI (by have:=bK.o.lt;have:=bK.o.b;omega)) (yL #[yA yj,yA yj] 52));have jR:=yN (show xs=pre by rw [HX.o,he,zi])
  gi_wp2
  refine⟨fun _ h=>(by cases h),?_⟩
  gi_wp2
  refine bodyPost_ret (results_none rfl _ _ _) rfl ?_;rw [jR.o];exact⟨⟨_,rfl⟩,aL.o,_,EW.o⟩
 have eW:pre ++ [p] <+: xs:=by rw [HX.o,he];exact⟨jZ gK,by simp⟩
 have hz2:=bK.o.lt;have hb2:=bK.o.b;have EW:=yN (HM.o _ _ _ _ _ N6.o (qK.alloc (yL #[yA p.1,yA p.2] 52) (fun i hi=>bK.o.sU (mG.1 hi).2)));have aL:=yN (aH.o.alloc (yf oI (by omega)) (yL #[yA p.1,yA p.2] 52));obtain⟨fn,tmps,assign,body,hy,hR⟩:=N5.o _ _ p _ EW.o eW aL.o;unfold pv at hy;have HR:=yN hR;have HE:=yN he
 gi_wp2
 refine⟨fun _=>by omega,HR.o.mono ?_⟩;rintro e w4 ⟨rfl,N7,kB,hb4⟩;have hz3:w2.heap.size<(w2.alloc (yL #[yA p.1,yA p.2] 52)).heap.size:=by simp
 have jH:=yN (bK.o.stays (W':=w4) (fun i hi=>by
  have h1:=bK.o.sU hi;by_cases h2:w0.heap.size≤i;·rw [kB i (mG.2 ⟨h2,hi⟩)];exact Below.heap_alloc _ _ _ h1
  rw [hb4.block i (by omega)];exact Below.heap_alloc _ _ _ h1) (by have:=hb4.size;omega))
 have N8:=yN N7;have aR:=yN (yn aL.o hb4)
 gi_wp2
 gi_roundg (jZ gK).length
 case measure=>have:=HL.o;rw [HE.o,zh] at this;omega
 exact⟨fJ,gK,pre ++ [p],yN (ye _),jH,N8,yN (by rw [HX.o,HE.o,zf];rfl),aR⟩
theorem aYP (b:Nat) (w:World):Calls yM 140 #[yB (yP ⟨b,0,yO⟩),yF #[yA ⟨#[]⟩,yA ⟨#[]⟩,yD true],yD false] w fun e w'=>∃ x1 x2 x3,e = .returned (yG (.func 213) #[] #[yB (yP ⟨x1,0,yO⟩),yB (yP ⟨x2,0,yO⟩),yB (yP ⟨x3,0,yO⟩)])∧
  w'.heap[x1]?=yP (yL #[yB (yP ⟨b,0,yO⟩)] 177)∧w'.heap[x2]?=yP (yL #[yA ⟨#[]⟩,yA ⟨#[]⟩,yD true] 44)∧w'.heap[x3]?=yP (yL #[yD false] 4)∧Kept w w':=by
 obtain⟨w1,cR⟩:∃ w1,w1=w.alloc (yL #[yB (yP ⟨b,0,yO⟩)] 177):=⟨_,rfl⟩;obtain⟨w2,hw2⟩:∃ w2,w2=w1.alloc (yL #[yA ⟨#[]⟩,yA ⟨#[]⟩,yD true] 44):=⟨_,rfl⟩;obtain⟨w3,hw3⟩:∃ w3,w3=w2.alloc (yL #[yD false] 4):=⟨_,rfl⟩;have k1:Kept w w1:=by rw [cR];exact (yk _ _).alloc (ye _) _
 have k2:Kept w1 w2:=by rw [hw2];exact (yk _ _).alloc (ye _) _
 have k3:Kept w2 w3:=by rw [hw3];exact (yk _ _).alloc (ye _) _
 have b1:w1.heap[w.heap.size]?=yP (yL #[yB (yP ⟨b,0,yO⟩)] 177):=by rw [cR];exact bM _ _
 have b2:w2.heap[w1.heap.size]?=yP (yL #[yA ⟨#[]⟩,yA ⟨#[]⟩,yD true] 44):=by rw [hw2];exact bM _ _
 have b3:w3.heap[w2.heap.size]?=yP (yL #[yD false] 4):=by rw [hw3];exact bM _ _
 have s1:w1.heap.size=w.heap.size+1:=by rw [cR];exact World.size_alloc _ _
 have s2:w2.heap.size=w1.heap.size+1:=by rw [hw2];exact World.size_alloc _ _
 have c1:=(k3.block w.heap.size (by omega)).trans ((k2.block w.heap.size (by omega)).trans b1);have c2:=(k3.block w1.heap.size (by omega)).trans b2;have HH:=yN (yd c1 (yd c2 (yd b3 (aB k1 (aB k2 k3)))));have HS:=yN (yd s1 s2);subst hw3 hw2 cR;go_enter func140,ntmps140;go_wp2_with fail;go_ret;exact⟨_,_,_,by simp,HH.o⟩
theorem aS3 (b d n:Nat) (lab:Key) (xs:List Pr) (w:World) (hr:RL w d n b lab lab xs) (hl:xs.length≤100000) :
  Calls yM 180 #[yB (yP ⟨b,0,yO⟩),yF #[yA ⟨#[]⟩,yA ⟨#[]⟩,yD true]] w fun e w'=>∃ v,e = .returned v∧w'.ownsRow w.heap.size 52 2 v xs.length (aK xs)∧Kept w w':=by
 obtain⟨aA,hb⟩:=aW w (yL #[yA ⟨#[]⟩,yA ⟨#[]⟩,yD true] 44);have HA:=yN aA;have HB:=yN hb;have HR:=yN hr;go_enter func180,ntmps180;go_wp2_with fail;refine (aYP b _).mono ?_;rintro e w1 ⟨x1,x2,x3,rfl,a1,a2,a3,aS⟩;have HC:=yN (aEQ w1 213 _ xs hl (enters_of func213 (by kernel_rfl) rfl) (a1D w1 b d n lab xs x1 x2 x3 3 (by decide) ((HR.o.kept HA.o).kept aS) (aG a1 rfl) (aG a2 rfl) (aG a2 rfl) (aG a2 rfl) (aG a3 rfl)));have aJ:=yN (aB HA.o aS);go_wp2_with fail;refine (HC.o).mono ?_;rintro e w2 ⟨v,rfl,ho,hk⟩;have HO:=yN ho;have HK:=yN hk;go_wp2_with fail;go_ret;exact⟨v,rfl,dG HO.o aJ.o.size,aB aJ.o HK.o⟩
end
section
attribute [local irreducible] look
variable {n m:Nat} {f g:Mp}
def aJ1 (f:Mp) (w:World) (e:Ending) (w':World):Prop:=∃ v s,e = .returned v∧eK s f∧w'.ownsRow w.heap.size 52 2 v s.length (aK s)∧Kept w w'
theorem aY8:Has [] none_:=⟨List.Pairwise.nil,fun k v=>by simp [none_]⟩
theorem GM (hs:Key→Nat) (b i lvl:Nat) (P:Nat→Option Pr) (Q:Nat→Option Nat) (f:Mp) (w:World) (h0:NS w b P Q) (hi:i<32) (h1:∀ p,P i=yP p→f=aY p) (h2:∀ k,Q i=yP k→CT hs w (lvl+1) k f) (h3:P i=yO→Q i=yO→f=none_) (hf:aM f 39) :
  Calls yM 264 #[yB (yP ⟨b,0,yO⟩),yE yH i] w (aJ1 f w):=by
 have H0:=yN h0;have H2:=yN h2;have HF:=yN hf;cases hp:P i with
 | some p=>
  have qX:=h1 p hp;subst qX;go_enter func264,ntmps264;go_wp2_with fail;refine (QZ b i p P Q w H0.o hi hp).mono ?_;rintro e w1 ⟨rfl,hk⟩;obtain⟨aA,hb⟩:=aW w1 (yL #[yA p.1,yA p.2] 52);have c0:=ch 0 hb;have c1:=ch 1 hb;have HK:=yN (aB hk aA);have HS:=yN hk.size;go_wp2_with fail;have hsz:=World.size_alloc w1 (yL #[yA p.1,yA p.2] 52);generalize w1.alloc _=w2 at *;obtain⟨BQ,hb2⟩:=aW w2 (yL #[yA p.1,yA p.2] 52);rw [hsz] at hb2;have hk2:=HK.o.size;go_ret;exact⟨_,[p],rfl,aWC p,⟨rfl,.inr ⟨w1.heap.size+1,1,_,rfl,by omega,hb2,ye _,by unfold maxLen;omega,rfl,rfl⟩⟩,aB HK.o BQ⟩
 | none=>
  have go:∀ (rv:Value) (n lv:Nat) (xs:List Pr),Root w rv n xs lv→Has xs f→(∀ w1,Kept w w1→Calls yM 255 #[yB (yP ⟨b,0,yO⟩),yE yH i] w1 fun e w'=>(∃ bk,e = .returned (.tuple #[rv,yD bk]))∧Kept w1 w')→Calls yM 264 #[yB (yP ⟨b,0,yO⟩),yE yH i] w (aJ1 f w):=by
   intro rv n lv xs hr hx D2;have HR:=yN hr;have HX:=yN hx;have H9:=yN D2;obtain⟨ro,rfl⟩:∃ ro,rv = .pointer ro:=by
    rcases HR.o with ⟨b,h,_⟩ | ⟨h,_⟩
    ·exact⟨_,h⟩
    exact⟨_,h⟩
   go_enter func264,ntmps264;go_wp2_with fail;refine (RB b i P Q w H0.o hi hp).mono ?_;rintro e w1 ⟨rfl,hk⟩;have aA:=aZ w1 (yL #[yA yj,yA yj] 52);have HK:=yN (aB hk aA);go_wp2_with fail;generalize w1.alloc _=w2 at *;refine (H9.o w2 HK.o).mono ?_;rintro e w3 ⟨⟨bk,rfl⟩,hk⟩;have aL:=yN (aB HK.o hk);go_wp2_with fail;refine (aER _ n xs w3 (HR.o.kept aL.o) (Nat.lt_succ_of_le (HX.o.few HF.o))).mono ?_;rintro e w4 ⟨v,s,rfl,hs,ho,hk⟩;have HE:=yN (yd (hs.lists HX.o) (yd (dG ho aL.o.size) (aB aL.o hk)));go_wp2_with fail;go_ret;exact⟨v,s,rfl,HE.o.1,HE.o.2.1,HE.o.2.2⟩
  cases hq:Q i with
  | some k=>
   obtain⟨n,l,hz,hh⟩:=(H2.o k hq).z;exact go (yB (yP ⟨k,0,yO⟩)) n _ l (.inl ⟨k,rfl,hz⟩) hh fun w1 hk=>(BA b i k P Q w1 (H0.o.kept hk) hi hq).mono fun e w' h=>⟨⟨_,h.1⟩,h.2⟩
  | none=>
   have MO:=h3 hp hq;subst MO;exact go (yB yO) 1 0 [] (.inr ⟨rfl,rfl,rfl⟩) aY8 fun w1 hk=>(BF b i P Q w1 (H0.o.kept hk) hi hq).mono fun e w' h=>⟨⟨_,h.1⟩,h.2⟩
def XT (hs:Key→Nat) (k:Nat):Prop:=∀ (lvl B:Nat) (V W:World) (sb:Nat) (x y z:Int) (sv:Value) (l:List Cg) (a b:Nat) (f g:Mp),lvl+k=13→Hid (jD B W sb x y z sv l)→Hid (Kept V W∧V.heap.size≤B)→Hid (CT hs V lvl a f∧CT hs V lvl b g)→Hid (aM f 39∧aM g 39)→Hid (l.length+(k+1)*100≤100000)→
 Calls yM 186 #[yB (yP ⟨sb,0,yO⟩),yB (yP ⟨a,0,yO⟩),yB (yP ⟨b,0,yO⟩)] W (KZ B W sb x y z sv l f g)
theorem aY9 (hf:aM f n) (hg:aM g m):∃ K:List Key,K.length≤n+m∧∀ k,f k≠g k→k∈K:=by
 obtain⟨k1,h1,h2⟩:=hf;obtain⟨k2,h3,h4⟩:=hg;refine⟨k1++k2,by rw [yy];omega,fun k hk=>za.2 ?_⟩;cases e:f k with
 | some v=>exact .inl (h2 k v e).1
 | none=>
  cases e2:g k with
  | some v=>exact .inr (h4 k v e2).1
  | none=>exact absurd (e.trans e2.symm) hk
theorem DL.few {l:List Cg} (h:DL f g l) (hf:aM f n) (hg:aM g m):l.length≤n+m:=by
 obtain⟨K,h1,h2⟩:=aY9 hf hg;exact yf (h.len K h2) h1
theorem BJ (hf:aM f n) (c:Key→Prop) [DecidablePred c]:aM (fun k=>if c k then f k else yO) n:=hf.sub fun k v h=>by
 by_cases e:c k;·rw [if_pos e] at h;exact h
 rw [if_neg e] at h;cases h
theorem qC (hf:aM f n) {hs:Key→Nat} {lvl i:Nat} {fs:Nat→Mp} (hd:f=fun k=>fs (five (hs k) lvl) k) (h4:∀ i k v,fs i k=yP v→five (hs k) lvl=i):aM (fs i) n:=hf.sub fun k v h=>by
 have:=h4 i k v h;rw [hd];simp only [this];exact h
theorem eK.wY {s:List Pr} (h:eK s f):bR s∧look s=f:=⟨h.1,h.KC.symm⟩
theorem WJ {V W W':World} {B sb:Nat} {x y z:Int} {sv dP:Value} {l:List Cg} (hV:Kept V W∧V.heap.size≤B) (hs:jD B W sb x y z sv l) (h:eH sb W sv W' dP):Kept V W':=
 yn hV.1 (Below.mono (h.below hs) hV.2)
theorem aTS (hs:Key→Nat) (kk:Nat) (ih:∀ j,j<kk→XT hs j):XT hs kk:=by
 intro lvl B V W sb x y z sv l a b f g hlk HS iX HC iY nP;by_cases hab:a=b
 ·subst hab;have hfg:=HC.o.1.fun HC.o.2;subst hfg;have AL:=aHS a a W (HC.o.1.kept iX.o.1).uz (HC.o.1.kept iX.o.1).uz;rw [decide_eq_true rfl] at AL;go_enter func186,ntmps186;go_wp2_with fail;go_end0;exact⟨rfl,sv,[],by rw [zi];exact HS.o,dR.refl _ _ _ _,DL.same _⟩
 have AL:=aHS a b W (HC.o.1.kept iX.o.1).uz (HC.o.2.kept iX.o.1).uz;rw [decide_eq_false hab] at AL;cases kk with
 | zero=>
  have h13:lvl=13:=by omega
  subst h13;obtain⟨pX,hcb⟩:=HC.o;generalize hlv:13=lv at pX hcb;cases pX with
  | inner _ _ P Q fs hl _ _ _ _ _=>omega
  | bucket _ la ha0 JD=>
   cases hcb with
   | inner _ _ P Q fs hl _ _ _ _ _=>omega
   | bucket _ lb hb0 hb3=>
    have pY:la.length≤39:=(tP JD).few iY.o.1;have jO:lb.length≤39:=(tP hb3).few iY.o.2;obtain⟨pa,ka,na,ra,_⟩:=ha0.kept iX.o.1;obtain⟨pb,kb,nb,rb,_⟩:=hb0.kept iX.o.1;have HA:=yN (yd na ra);have HB:=yN (yd nb rb);have HR:=yN (yd JD hb3);go_enter func186,ntmps186;go_wp2_with fail;refine (xA a 0 0 pa ka true W HA.o.1).mono ?_;rintro e w' ⟨rfl,rfl⟩;go_wp2_with fail;refine (J6 a 0 0 la.length pa ka true (aK la) W HA.o.1 HA.o.2 (lG _) (by omega) (nQ _)).mono ?_;rintro e w1 ⟨v1,rfl,gH,aS⟩;have aJ:=yN aS;have eE:=yN gH;go_wp2_with fail;refine (J6 b 0 0 lb.length pb kb true (aK lb) w1 (HB.o.1.kept aJ.o) (HB.o.2.kept aJ.o) (lG _) (by omega) (nQ _)).mono ?_;rintro e w2 ⟨v2,rfl,cI,hk2⟩;have aH:=yN (aB aJ.o hk2);have ME:=yN (bT eE.o hk2);have dZ:=yN cI;go_wp2_with fail;refine (C0 B w2 sb x y z sv l v1 v2 la lb _ _ (HS.o.kept aH.o) ME.o dZ.o HR.o.1 HR.o.2 (by have:=nP.o;omega)).mono ?_;rintro e w3 ⟨rfl,tG,m2,iD,rY,iR⟩;have HE:=yN (yd iD (yd ((eH.kept aH.o).trans rY) iR));go_wp2_with fail;go_end0;exact⟨rfl,tG,m2,HE.o.1,HE.o.2.1,HE.o.2.2⟩
 | succ kk=>
  have ih:=ih kk (by omega);obtain⟨pX,hcb⟩:=HC.o;generalize hlv:lvl=lv at pX hcb;cases pX with
  | bucket _ la ha0 JD=>omega
  | inner _ _ P Q fs hl ha0 ha1 ha2 JD ha4=>
   cases hcb with
   | bucket _ lb hb0 hb3=>omega
   | inner _ _ P' Q' gs hl' hb0 hb1 hb2 hb3 hb4=>
    subst hlv;have uU:=yN ha0;have wM:=yN hb0;have kE:=yN (yd ha1 (yd ha2 (yd JD ha4)));have kF:=yN (yd hb1 (yd hb2 (yd hb3 hb4)));obtain⟨da,na,pva,FC,hna,_⟩:=ha0.kept iX.o.1;have JE:=yN hna;go_enter func186,ntmps186;go_wp2_with fail;refine (xA a da na pva FC false W JE.o).mono ?_;rintro e w' ⟨rfl,rfl⟩;go_wp2_with fail
    go_loopg [22] 32 (fun kx s22 wr=>∃ (i:Nat) (dP:Value) (m:List Cg),s22=yE yH i∧i≤32∧32-i≤kx∧Hid (jD B wr sb x y z dP (l++m))∧Hid (eH sb W sv wr dP)∧Hid (DL (fun k=>if five (hs k) lvl<i then fs (five (hs k) lvl) k else yO) (fun k=>if five (hs k) lvl<i then gs (five (hs k) lvl) k else yO) m))
    case atStart=>exact⟨0,sv,[],rfl,by omega,by omega,yN (by rw [zi];exact HS.o),yN (dR.refl _ _ _ _),yN (DL.a38 (f:=fun k=>fs (five (hs k) lvl) k) (g:=fun k=>gs (five (hs k) lvl) k) fun k=>five (hs k) lvl)⟩
    obtain⟨i,dP,m,rfl,hi,hm,cZ,HST,HD⟩:=hrel;by_cases cY:i<32
    ·have a6O:(i:Int)<32:=by omega
     have HV:=yN (WJ iX.o HS.o HST.o);cases mK:Q i with
     | some k1=>
      cases eY:Q' i with
      | some k2=>
       go_wp2_with fail;refine (BA a i k1 P Q wr (uU.o.kept HV.o) cY mK).mono ?_;rintro e w1 ⟨rfl,aS⟩;have aJ:=yN aS;go_wp2_with fail;refine (BA b i k2 P' Q' w1 (wM.o.kept (aB HV.o aJ.o)) cY eY).mono ?_;rintro e w2 ⟨rfl,hk2⟩;have dE:=yN (aB aJ.o hk2);go_wp2_with fail;have hm9:=HD.o.few (BJ iY.o.1 _) (BJ iY.o.2 _);refine (ih (lvl+1) B V w2 sb x y z dP (l++m) k1 k2 (fs i) (gs i) (by omega) (yN (cZ.o.kept dE.o)) (yN ⟨aB HV.o dE.o,iX.o.2⟩) (yN ⟨kE.o.2.1 i k1 mK,kF.o.2.1 i k2 eY⟩) (yN ⟨qC iY.o.1 rfl kE.o.2.2.2,qC iY.o.2 rfl kF.o.2.2.2⟩) (yN (by have:=nP.o;rw [yy];omega))).mono ?_;rintro e w5 ⟨rfl,tG,m2,iD,rY,iR⟩;have FD:=HD.o.chunk (fun k=>five (hs k) lvl) fs gs (fun k=>rfl) (fun k=>rfl) (fun i k h=>Option.ne_none_iff_exists'.1 h |>.elim fun v hv=>kE.o.2.2.2 i k v hv) (fun i k h=>Option.ne_none_iff_exists'.1 h |>.elim fun v hv=>kF.o.2.2.2 i k v hv) iR;rw [zf] at iD;have pZ:=yN (yd iD (yd (HST.o.trans ((eH.kept dE.o).trans rY)) FD));go_wp2_with fail;go_roundg (32-(i+1));case measure=>omega
       exact⟨i+1,tG,m++m2,by congr 1,by omega,ye _,yN pZ.o.1,yN pZ.o.2.1,yN pZ.o.2.2⟩
      | none=>
       go_wp2_with fail;refine (BA a i k1 P Q wr (uU.o.kept HV.o) cY mK).mono ?_;rintro e w1 ⟨rfl,aS⟩;have aJ:=yN aS;go_wp2_with fail;refine (BF b i P' Q' w1 (wM.o.kept (aB HV.o aJ.o)) cY eY).mono ?_;rintro e w2 ⟨rfl,hk2⟩;have dE:=yN (aB aJ.o hk2);go_wp2_with fail;refine (GM hs a i lvl P Q (fs i) _ (uU.o.kept (aB HV.o dE.o)) cY (fun p hp=>(kE.o.1 i p hp).2) (fun k hk=>(kE.o.2.1 i k hk).kept (aB HV.o dE.o)) (kE.o.2.2.1 i) (qC iY.o.1 rfl kE.o.2.2.2)).mono ?_;rintro e w3 ⟨v1,s1,rfl,jG,gH,hk3⟩;have aL:=yN (aB dE.o hk3);have jU:=yN (yd jG gH);go_wp2_with fail;refine (GM hs b i lvl P' Q' (gs i) _ (wM.o.kept (aB HV.o aL.o)) cY (fun p hp=>(kF.o.1 i p hp).2) (fun k hk=>(kF.o.2.1 i k hk).kept (aB HV.o aL.o)) (kF.o.2.2.1 i) (qC iY.o.2 rfl kF.o.2.2.2)).mono ?_;rintro e w4 ⟨v2,s2,rfl,hl2,cI,hk4⟩;have aR:=yN (aB aL.o hk4);have eE:=yN (bT jU.o.2 hk4);have iZ:=yN (yd hl2 cI);go_wp2_with fail;have vY:=jU.o.1.few (qC iY.o.1 rfl kE.o.2.2.2);have iO:=iZ.o.1.few (qC iY.o.2 rfl kF.o.2.2.2);have xP:=HD.o.few (BJ iY.o.1 _) (BJ iY.o.2 _);refine (C0 B w4 sb x y z dP (l++m) v1 v2 s1 s2 _ _ (cZ.o.kept aR.o) eE.o iZ.o.2 jU.o.1.1 iZ.o.1.1 (by have:=nP.o;rw [yy];omega)).mono ?_;rintro e w5 ⟨rfl,tG,m2,iD,rY,iR⟩;rw [jU.o.1.wY.2,iZ.o.1.wY.2] at iR;have FD:=HD.o.chunk (fun k=>five (hs k) lvl) fs gs (fun k=>rfl) (fun k=>rfl) (fun i k h=>Option.ne_none_iff_exists'.1 h |>.elim fun v hv=>kE.o.2.2.2 i k v hv) (fun i k h=>Option.ne_none_iff_exists'.1 h |>.elim fun v hv=>kF.o.2.2.2 i k v hv) iR;rw [zf] at iD;have pZ:=yN (yd iD (yd (HST.o.trans ((eH.kept aR.o).trans rY)) FD));go_wp2_with fail;go_roundg (32-(i+1));case measure=>omega
       exact⟨i+1,tG,m++m2,by congr 1,by omega,ye _,yN pZ.o.1,yN pZ.o.2.1,yN pZ.o.2.2⟩
     | none=>
      cases eY:Q' i with
      | some k2=>
       go_wp2_with fail;refine (BF a i P Q wr (uU.o.kept HV.o) cY mK).mono ?_;rintro e w1 ⟨rfl,aS⟩;have aJ:=yN aS;go_wp2_with fail;refine (BA b i k2 P' Q' w1 (wM.o.kept (aB HV.o aJ.o)) cY eY).mono ?_;rintro e w2 ⟨rfl,hk2⟩;have dE:=yN (aB aJ.o hk2);go_wp2_with fail;refine (GM hs a i lvl P Q (fs i) _ (uU.o.kept (aB HV.o dE.o)) cY (fun p hp=>(kE.o.1 i p hp).2) (fun k hk=>(kE.o.2.1 i k hk).kept (aB HV.o dE.o)) (kE.o.2.2.1 i) (qC iY.o.1 rfl kE.o.2.2.2)).mono ?_;rintro e w3 ⟨v1,s1,rfl,jG,gH,hk3⟩;have aL:=yN (aB dE.o hk3);have jU:=yN (yd jG gH);go_wp2_with fail;refine (GM hs b i lvl P' Q' (gs i) _ (wM.o.kept (aB HV.o aL.o)) cY (fun p hp=>(kF.o.1 i p hp).2) (fun k hk=>(kF.o.2.1 i k hk).kept (aB HV.o aL.o)) (kF.o.2.2.1 i) (qC iY.o.2 rfl kF.o.2.2.2)).mono ?_;rintro e w4 ⟨v2,s2,rfl,hl2,cI,hk4⟩;have aR:=yN (aB aL.o hk4);have eE:=yN (bT jU.o.2 hk4);have iZ:=yN (yd hl2 cI);go_wp2_with fail;have vY:=jU.o.1.few (qC iY.o.1 rfl kE.o.2.2.2);have iO:=iZ.o.1.few (qC iY.o.2 rfl kF.o.2.2.2);have xP:=HD.o.few (BJ iY.o.1 _) (BJ iY.o.2 _);refine (C0 B w4 sb x y z dP (l++m) v1 v2 s1 s2 _ _ (cZ.o.kept aR.o) eE.o iZ.o.2 jU.o.1.1 iZ.o.1.1 (by have:=nP.o;rw [yy];omega)).mono ?_;rintro e w5 ⟨rfl,tG,m2,iD,rY,iR⟩;rw [jU.o.1.wY.2,iZ.o.1.wY.2] at iR;have FD:=HD.o.chunk (fun k=>five (hs k) lvl) fs gs (fun k=>rfl) (fun k=>rfl) (fun i k h=>Option.ne_none_iff_exists'.1 h |>.elim fun v hv=>kE.o.2.2.2 i k v hv) (fun i k h=>Option.ne_none_iff_exists'.1 h |>.elim fun v hv=>kF.o.2.2.2 i k v hv) iR;rw [zf] at iD;have pZ:=yN (yd iD (yd (HST.o.trans ((eH.kept aR.o).trans rY)) FD));go_wp2_with fail;go_roundg (32-(i+1));case measure=>omega
       exact⟨i+1,tG,m++m2,by congr 1,by omega,ye _,yN pZ.o.1,yN pZ.o.2.1,yN pZ.o.2.2⟩
      | none=>
       go_wp2_with fail;refine (BF a i P Q wr (uU.o.kept HV.o) cY mK).mono ?_;rintro e w1 ⟨rfl,aS⟩;have aJ:=yN aS;go_wp2_with fail;refine (BF b i P' Q' w1 (wM.o.kept (aB HV.o aJ.o)) cY eY).mono ?_;rintro e w2 ⟨rfl,hk2⟩;have dE:=yN (aB aJ.o hk2);go_wp2_with fail;refine (GM hs a i lvl P Q (fs i) _ (uU.o.kept (aB HV.o dE.o)) cY (fun p hp=>(kE.o.1 i p hp).2) (fun k hk=>(kE.o.2.1 i k hk).kept (aB HV.o dE.o)) (kE.o.2.2.1 i) (qC iY.o.1 rfl kE.o.2.2.2)).mono ?_;rintro e w3 ⟨v1,s1,rfl,jG,gH,hk3⟩;have aL:=yN (aB dE.o hk3);have jU:=yN (yd jG gH);go_wp2_with fail;refine (GM hs b i lvl P' Q' (gs i) _ (wM.o.kept (aB HV.o aL.o)) cY (fun p hp=>(kF.o.1 i p hp).2) (fun k hk=>(kF.o.2.1 i k hk).kept (aB HV.o aL.o)) (kF.o.2.2.1 i) (qC iY.o.2 rfl kF.o.2.2.2)).mono ?_;rintro e w4 ⟨v2,s2,rfl,hl2,cI,hk4⟩;have aR:=yN (aB aL.o hk4);have eE:=yN (bT jU.o.2 hk4);have iZ:=yN (yd hl2 cI);go_wp2_with fail;have vY:=jU.o.1.few (qC iY.o.1 rfl kE.o.2.2.2);have iO:=iZ.o.1.few (qC iY.o.2 rfl kF.o.2.2.2);have xP:=HD.o.few (BJ iY.o.1 _) (BJ iY.o.2 _);refine (C0 B w4 sb x y z dP (l++m) v1 v2 s1 s2 _ _ (cZ.o.kept aR.o) eE.o iZ.o.2 jU.o.1.1 iZ.o.1.1 (by have:=nP.o;rw [yy];omega)).mono ?_;rintro e w5 ⟨rfl,tG,m2,iD,rY,iR⟩;rw [jU.o.1.wY.2,iZ.o.1.wY.2] at iR;have FD:=HD.o.chunk (fun k=>five (hs k) lvl) fs gs (fun k=>rfl) (fun k=>rfl) (fun i k h=>Option.ne_none_iff_exists'.1 h |>.elim fun v hv=>kE.o.2.2.2 i k v hv) (fun i k h=>Option.ne_none_iff_exists'.1 h |>.elim fun v hv=>kF.o.2.2.2 i k v hv) iR;rw [zf] at iD;have pZ:=yN (yd iD (yd (HST.o.trans ((eH.kept aR.o).trans rY)) FD));go_wp2_with fail;go_roundg (32-(i+1));case measure=>omega
       exact⟨i+1,tG,m++m2,by congr 1,by omega,ye _,yN pZ.o.1,yN pZ.o.2.1,yN pZ.o.2.2⟩
    have a6O:¬ (i:Int)<32:=by omega
    have e32:i=32:=by omega
    subst e32;go_wp2_with fail;go_end0;exact⟨rfl,dP,m,cZ.o,HST.o,DL.all (fun k=>five (hs k) lvl) (fun k=>uZ _ _) HD.o⟩
theorem aWD (hs:Key→Nat) (k:Nat):XT hs k:=Nat.strongRecOn k fun k ih=>aTS hs k ih
end
section
attribute [local irreducible] look
variable {f:Mp} {key lab val:Key} {n b:Nat} {own:Option Key} {w V:World} {kv:Value} {has:Bool}
theorem DL.b9 {f1 g1 f2 g2:Mp} {l1 l2:List Cg} (h1:DL f1 g1 l1) (h2:DL f2 g2 l2) (hd:∀ k,f2 k≠yO∨g2 k≠yO→f1 k=yO∧g1 k=yO):DL (b9 f1 f2) (b9 g1 g2) (l1++l2):=by
 have hc:∀ k,f1 k≠g1 k→f2 k=yO∧g2 k=yO:=fun k hk=>by
  refine⟨?_,?_⟩
  ·by_cases e:f2 k=yO;·exact e
   have:=hd k (.inl e);exact absurd (this.1.trans this.2.symm) hk
  by_cases e:g2 k=yO;·exact e
  have:=hd k (.inr e);exact absurd (this.1.trans this.2.symm) hk
 have hc2:∀ k,f2 k≠g2 k→f1 k=yO∧g1 k=yO:=fun k hk=>by
  by_cases e:f2 k=yO;·exact hd k (.inr fun e2=>hk (e.trans e2.symm))
  exact hd k (.inl e)
 refine DL.join h1 h2 (fun k hk=>?_) (fun k hk=>?_) (fun k hk=>?_) (fun k hk hk2=>?_)
 ·obtain⟨e1,e2⟩:=hc k hk;simp [Go.Proofs.YtcldomgdkhenpaaGreat.b9,e1,e2]
 ·obtain⟨e1,e2⟩:=hc2 k hk;simp [Go.Proofs.YtcldomgdkhenpaaGreat.b9,e1,e2]
 ·by_cases e:f1 k=g1 k
  ·right;intro e2;exact hk (by simp [Go.Proofs.YtcldomgdkhenpaaGreat.b9,e,e2])
  exact .inl e
 obtain⟨e1,e2⟩:=hc2 k hk2;exact hk (e1.trans e2.symm)
theorem VO (f g h:Mp):b9 (b9 f g) h=b9 f (b9 g h):=by funext k;simp [b9,Option.or_assoc]
theorem aGG {ls:List Kd} {o:Option Key} (hq:0<lab.size) (hl:∀ p∈ls,0<p.lab.size) (hne:∀ p∈ls,head p.lab<head lab) {r:Key} : b9 (kK key o) (eV key ls) (key++(lab++r))=yO:=by
 have h1:kK key o (key++(lab++r))=yO:=by
  cases e:kK key o (key++(lab++r)) with
  | none=>rfl
  | some v=>
   have:=congrArg ByteArray.size (QA e).1;rw [eP,eP] at this;omega
 have h2:eV key ls (key++(lab++r))=yO:=by
  cases e:eV key ls (key++(lab++r)) with
  | none=>rfl
  | some v=>
   obtain⟨p,hp,r',hr,_⟩:=x8 e;have h3:=u9 hr;have h4:=kG (b:=r) (a:=lab) hq;rw [h3,kG _ (hl p hp)] at h4;have:=hne p hp;omega
 simp [b9,h1,h2]
theorem KB {oa ob:Option Key} {xa xb:List Kd} {m m2:List Cg} {ya yb:List Kd} (h:DL (b9 (kK key oa) (eV key xa)) (b9 (kK key ob) (eV key xb)) m) (h2:DL (eV key ya) (eV key yb) m2) (hl:∀ q∈xa++xb++(ya++yb),0<q.lab.size)
  (hx:∀ p∈xa++xb,∀ q∈ya++yb,head p.lab<head q.lab):DL (b9 (kK key oa) (eV key (xa++ya))) (b9 (kK key ob) (eV key (xb++yb))) (m++m2):=by
 rw [P4,P4,← VO,← VO];refine DL.b9 h h2 fun k hk=>?_;have:∃ q∈ya++yb,∃ r,k=key++(q.lab++r):=by
  rcases hk with hk | hk
  ·obtain⟨v,hv⟩:=Option.ne_none_iff_exists'.1 hk;obtain⟨q,hq,r,hr,_⟩:=x8 hv;exact⟨q,List.mem_append_left _ hq,r,hr⟩
  obtain⟨v,hv⟩:=Option.ne_none_iff_exists'.1 hk;obtain⟨q,hq,r,hr,_⟩:=x8 hv;exact⟨q,List.mem_append_right _ hq,r,hr⟩
 obtain⟨q,hq,r,rfl⟩:=this;have nD:=hl q (List.mem_append_right _ hq);exact⟨aGG nD (fun p hp=>hl p (by simp [hp])) (fun p hp=>hx p (by simp [hp]) q hq),aGG nD (fun p hp=>hl p (by simp [hp])) (fun p hp=>hx p (by simp [hp]) q hq)⟩
theorem aWF (key:Key):eV key []=none_:=rfl
theorem GX {ks:List Kd} (h:aM (behind key f) n) (ha:dD own ks f) {q:Kd} (hq:q∈ks):aM (behind (key++q.lab) q.f) n:=h.sub fun k v hv=>by
 obtain⟨r,rfl,hr⟩:=FR hv;rw [qE,F6,ha.2.1 q hq];exact hr
theorem aHT {xs ps:List Kd} (h:aM (behind key f) n) (ha:dD own (xs++ps) f) (hl:∀ q∈xs++ps,0<q.lab.size):aM (b9 (kK key own) (eV key xs)) n:=h.sub fun k v hv=>by
 rw [CY key ha hl,P4,← VO];show (b9 (kK key own) (eV key xs) k).or _=yP v;rw [hv];rfl
theorem aIT (a:Key) (h:0<a.size) (w:World):(Instr.index 9 (yA a) (yE yH 0)).run yM w = .ok (yE yK (head a:Nat)) w:=by
 rw [run_index_string w 9 a .i64 0 underlying9,dif_pos (⟨Int.le_refl _,by omega⟩:(0:Int)≤0∧(0:Int)<(a.size:Int)),KG a h];rfl
theorem FU (h:NR w b lab has val kv):Calls yM 258 #[yB (yP ⟨b,0,yO⟩)] (w.drewN n) fun e w'=>e = .returned (yA lab)∧∃ m,w'=w.drewN m:=
 (wX b lab val has kv _ (h.kept (lF _ _))).mono fun _ _ ⟨h1,h2⟩=>⟨h1,n,h2.symm⟩
theorem PY (h:NR w b lab has val kv) {a:Nat} : Calls yM 258 #[yB (yP ⟨b,0,yO⟩)] (w.drewN (a+n)) fun e w'=>e = .returned (yA lab)∧∃ m,w'=w.drewN (a+m):=
 (wX b lab val has kv _ (h.kept (lF _ _))).mono fun _ _ ⟨h1,h2⟩=>⟨h1,n,h2.symm⟩
theorem LA {v:Value} {p:Kd} {l:List Kd} (h:Rd V v (p::l).length ((p::l).map fun q=>ptr q.b)) (hs:∀ q u,V.cell? q=yP u→w.cell? q=yP u):∃ g off cap,v=yC (yP ⟨g,off,yO⟩) (l.length+1) cap∧l.length+1≤cap∧cap≤maxLen∧w.cell? ⟨g,off,yO⟩=yP (yB (yP ⟨p.b,0,yO⟩))∧
  Hid (Rd V (yC (yP ⟨g,off+1,yO⟩) l.length (cap-1)) l.length (l.map fun q=>ptr q.b)):=by
 rcases h with ⟨_,_,_,_,h,_⟩ | ⟨g,off,cap,rfl,h1,h2,_,hc⟩
 ·cases h
 refine⟨g,off,cap,rfl,h1,h2,hs _ _ (hc 0 _ rfl),yN ?_⟩;exact P7 (k:=1) hc (by simp) h1 h2
theorem BD {l:List Kd} {a:Option Addr} (h:l.length=0):Rd V (yC a 0 0) l.length (l.map fun q=>ptr q.b):=by
 have e:l=[]:=List.eq_nil_of_length_eq_zero h;subst e;exact .inl ⟨_,_,rfl,by unfold maxLen;omega,rfl,rfl⟩
theorem QO {B:Nat} {W:World} {sb:Nat} {x y z:Int} {sv:Value} {l:List Cg} {ahead:Key} {d1 d2:Nat} {o1 o2:Option Nat} {g:Mp} (HS:Hid (jD B W sb x y z sv l)) (iX:Hid (Kept V W∧V.heap.size≤B)) (h1:Hid (Sd V ahead d1 o1 f)) (h2:Hid (Sd V ahead d2 o2 g)) (hn:(o1=yO∧∃ b,o2=yP b)∨(o2=yO∧∃ b,o1=yP b))
  (HF:Hid (aM f 39∧aM g 39)) (nP:Hid (l.length≤900000)):Calls yM 184 #[yB (yP ⟨sb,0,yO⟩),op o1,op o2,yA ahead] W (KZ B W sb x y z sv l f g):=by
 rcases hn with ⟨rfl,b,rfl⟩ | ⟨rfl,b,rfl⟩
 all_goals
  simp only [op,Option.map_none,Option.map_some];have AL:=fun w=>aQY underlying177 ⟨b,0,yO⟩ w;go_enter func184,ntmps184;go_wp2_with fail;refine (QN ahead d1 _ f W (h1.o.kept iX.o.1) (HF.o.1.mono (by omega))).mono ?_;rintro e w1 ⟨s1,jG,v1,rfl,gH,aS⟩;have eE:=yN gH;have aJ:=yN aS;have jU:=yN jG;clear gH aS jG;go_wp2_with fail;refine (QN ahead d2 _ g w1 ((h2.o.kept iX.o.1).kept aJ.o) (HF.o.2.mono (by omega))).mono ?_;rintro e w2 ⟨s2,hl2,v2,rfl,cI,hk2⟩;have ME:=yN (bT eE.o hk2);have dZ:=yN cI;have aH:=yN (aB aJ.o hk2);have iZ:=yN hl2;clear cI hk2 hl2;go_wp2_with fail;refine (C0 B w2 sb x y z sv l v1 v2 s1 s2 _ _ (HS.o.kept aH.o) ME.o dZ.o jU.o.1 iZ.o.1 (by have:=nP.o;have:=jU.o.few HF.o.1;have:=iZ.o.few HF.o.2;omega)).mono ?_;rintro e w3 ⟨rfl,tG,m2,iD,rY,iR⟩;rw [jU.o.wY.2,iZ.o.wY.2] at iR;have HE:=yN (yd iD (yd ((eH.kept aH.o).trans rY) iR));clear iD rY iR;go_wp2_with fail;go_end0;exact⟨rfl,tG,m2,HE.o.1,HE.o.2.1,HE.o.2.2⟩
def XU (k:Nat):Prop:=∀ (da db B:Nat) (V W:World) (sb:Nat) (x y z:Int) (sv:Value) (l:List Cg) (a b:Nat) (la lb:Key) (fa fb:Mp) (ahead:Key),da≤k→Hid (jD B W sb x y z sv l)→Hid (Kept V W∧V.heap.size≤B)→Hid (RR V da a la fa∧RR V db b lb fb)→
 Hid ((ahead++la).size+da≤1000∧(ahead++lb).size+db≤1000)→Hid (aM (behind (ahead++la) fa) 39∧aM (behind (ahead++lb) fb) 39)→Hid (l.length+(k+1)*100≤500000)→
 Calls yM 184 #[yB (yP ⟨sb,0,yO⟩),yB (yP ⟨a,0,yO⟩),yB (yP ⟨b,0,yO⟩),yA ahead] W (KZ B W sb x y z sv l (behind (ahead++la) fa) (behind (ahead++lb) fb))
theorem aTT (k:Nat) (ih:∀ j,j<k→XU j):XU k:=by
 intro da db B V W sb x y z sv l a b la lb fa fb ahead hda HS iX HR HZ HF nP;by_cases hab:a=b
 ·subst hab;obtain⟨rfl,rfl⟩:=HR.o.1.fun HR.o.2;have AL:=aGF a a W (HR.o.1.kept iX.o.1).uz (HR.o.1.kept iX.o.1).uz;rw [decide_eq_true rfl] at AL;go_enter func184,ntmps184;go_wp2_with fail;go_end0;exact⟨rfl,sv,[],by rw [zi];exact HS.o,dR.refl _ _ _ _,DL.same _⟩
 have AL:=aGF a b W (HR.o.1.kept iX.o.1).uz (HR.o.2.kept iX.o.1).uz;rw [decide_eq_false hab] at AL;obtain⟨IE,IG,FC,ks,ra⟩:=HR.o.1.ri;obtain⟨MG,MH,T6,ms,rb⟩:=HR.o.2.ri;have uU:=yN (ra.h0.kept iX.o.1);have wM:=yN (rb.h0.kept iX.o.1);have uJ:=qJ la lb;by_cases uA:la=lb
 ·subst uA;rw [decide_eq_true rfl] at uJ;have jT:=yN ra;have lA:=yN rb;clear ra rb uJ;have hsz:¬ 9223372036854775807<(ahead.size:Int)+(la.size:Int):=by
   have:=HZ.o.1;rw [eP] at this;omega
  have hsz':¬ 9223372036854775807<ahead.size+la.size:=by
   have:=HZ.o.1;rw [eP] at this;omega
  obtain⟨oa,hoa⟩:∃ oa,oa=(if IE then yP IG else yO):=⟨_,rfl⟩;obtain⟨ob,vU⟩:∃ ob,ob=(if MG then yP MH else yO):=⟨_,rfl⟩;have HOa:=yN hoa;have HOb:=yN vU;clear hoa vU;go_enter func184,ntmps184;go_wp2_with fail;refine (wX a la IG IE FC W uU.o).mono ?_;rintro e w' ⟨rfl,rfl⟩;go_wp2_with fail;refine (wX b la MH MG T6 W wM.o).mono ?_;rintro e w' ⟨rfl,rfl⟩;go_wp2_with fail;refine (wX a la IG IE FC W uU.o).mono ?_;rintro e w' ⟨rfl,rfl⟩;go_wp2_with fail;obtain⟨key,hkey⟩:∃ key,key=ahead++la:=⟨_,rfl⟩;have HKEY:=yN hkey;rw [← hkey] at HF HZ ⊢;clear hsz hsz' hkey;refine (aIS a la key IG IE FC W uU.o).mono ?_;rintro e w1 ⟨v1,rfl,gH,aS⟩;rw [← HOa.o] at gH;have eE:=yN gH;have aJ:=yN aS;clear gH aS;go_wp2_with fail;refine (aIS b la key MH MG T6 w1 (wM.o.kept aJ.o)).mono ?_;rintro e w2 ⟨v2,rfl,cI,hk2⟩;rw [← HOb.o] at cI;have dZ:=yN (yd (bT eE.o hk2) cI);have aH:=yN (aB aJ.o hk2);clear cI hk2 eE aJ;go_wp2_with fail;have B8:∀ o:Option Key,(tW key o).length≤1:=fun o=>by cases o <;> simp [tW]
  refine (C0 B w2 sb x y z sv l v1 v2 (tW key oa) (tW key ob) _ _ (HS.o.kept aH.o) dZ.o.1 dZ.o.2 (F7 key oa).1 (F7 key ob).1 (by have:=nP.o;have:=B8 oa;have:=B8 ob;omega)).mono ?_;clear B8;rintro e w3 ⟨rfl,O1,m3,a6P,a84,aLL⟩;rw [← (F7 key oa).KC,← (F7 key ob).KC] at aLL;have aJ2:=(eH.kept aH.o).trans a84;have hv3:=WJ iX.o HS.o aJ2;have YK:=yN a6P;have a86:=yN aJ2;have cT:=yN hv3;have a88:=yN aLL;clear a6P a84 aJ2 aLL hv3 dZ aH;go_wp2_with fail;refine (Q0 a ks.length la IG IE FC _ w3 (jT.o.h0.kept cT.o) (jT.o.h1.kept cT.o) (by simp) (by have:=jT.o.len;omega) (fun u hu=>by obtain⟨x,_,rfl⟩:=zj.1 hu;rfl)).mono ?_;rintro e w4 ⟨va,rfl,hka,hk4⟩;have AG:=yN hka;have aR:=yN hk4;clear hka hk4;go_wp2_with fail;refine (Q0 b ms.length la MH MG T6 _ w4 ((lA.o.h0.kept cT.o).kept aR.o) ((lA.o.h1.kept cT.o).kept aR.o) (by simp) (by have:=lA.o.len;omega) (fun u hu=>by obtain⟨x,_,rfl⟩:=zj.1 hu;rfl)).mono ?_;rintro e w5 ⟨vb,rfl,hkb,bQ⟩;have hs3:=aR.o.size
  have HX:Hid (∀ i,(va.ownBlock=yP i∨vb.ownBlock=yP i)→i<w5.heap.size∧i≠sb∧O1.ownBlock≠yP i):=yN (fun i hi=>by
   have h3:w3.heap.size≤i∧i<w5.heap.size:=by
    rcases hi with hi | hi
    ·have:=AG.o.lt i hi;have:=bQ.size;omega
    have:=hkb.lt i hi;omega
   have:=YK.o.lt;exact⟨h3.2,by omega,fun e=>by have:=(YK.o.row.lt i e).2;omega⟩)
  have aJ3:=yN ((YK.o.kept aR.o).kept bQ);have a89:=yN (a86.o.trans ((eH.kept aR.o).trans (eH.kept bQ)));have O0:=yN (yd (aB cT.o (aB aR.o bQ)) iX.o.2);obtain⟨X,hX⟩:∃ X:Nat→Bool,X=fun i=>decide (va.ownBlock=yP i) || decide (vb.ownBlock=yP i):=⟨_,rfl⟩;have tC:Hid (Rd (bO X w5) va ks.length (ks.map fun q=>ptr q.b)∧Rd (bO X w5) vb ms.length (ms.map fun q=>ptr q.b)):=yN ⟨RN (bT AG.o bQ) fun i hi=>by rw [hX];simp [hi],RN hkb fun i hi=>by rw [hX];simp [hi]⟩;have SQ:Hid (∀ i,X i=true→i<w5.heap.size∧i≠sb∧O1.ownBlock≠yP i):=yN (fun i hi=>HX.o i (by rw [hX] at hi;simpa using hi));obtain⟨a1,c1,rfl⟩:∃ a c,va=yC a ks.length c:=tC.o.1.shape;obtain⟨a2,c2,rfl⟩:∃ a c,vb=yC a ms.length c:=tC.o.2.shape;clear hkb bQ hs3 HX hX AG aR YK a86 cT;go_wp2_with fail
  go_loopg [9,10] (ks.length+ms.length) (fun kx s9 cK wr=>∃ (v9 v10:Value) (xa pa xb pb:List Kd) (dP:Value) (m:List Cg),v9=s9∧v10=cK∧pa.length+pb.length≤kx∧Hid (ks=xa++pa∧ms=xb++pb)∧Hid (Rd (bO X w5) v9 pa.length (pa.map fun q=>ptr q.b))∧Hid (Rd (bO X w5) v10 pb.length (pb.map fun q=>ptr q.b))∧Hid (jD B wr sb x y z dP (l++m))∧Hid (eH sb w5 O1 wr dP)∧
   Hid (DL (b9 (kK key oa) (eV key xa)) (b9 (kK key ob) (eV key xb)) m)∧Hid (∀ p∈xa++xb,∀ q∈pa++pb,head p.lab<head q.lab))
  case atStart=>exact⟨_,_,[],ks,[],ms,O1,m3,rfl,rfl,ye _,yN ⟨rfl,rfl⟩,yN tC.o.1,yN tC.o.2,aJ3,yN (dR.refl _ _ _ _),yN (by rw [aWF,QT,QT];exact a88.o),yN (by simp)⟩
  obtain⟨v9,v10,xa,pa,xb,pb,dP,m,rfl,rfl,hm,cU,HA,HB,cZ,HST,HD,HC⟩:=hrel;have j4:∀ q u,(bO X w5).cell? q=yP u→wr.cell? q=yP u:=fun q u hq=>by
   obtain⟨h1,h2⟩:=GI hq;obtain⟨a1,a2,a3⟩:=SQ.o _ h1;exact (zn (HST.o.same _ a1 a2 a3)).trans h2
  have vG:=yN j4;have AQ:=yN (yd (WJ O0.o aJ3.o HST.o) iX.o.2);have rT:=jT.o.h6;have Z7:=lA.o.h6;rw [cU.o.1,← HOa.o] at rT;rw [cU.o.2,← HOb.o] at Z7;have pL:=jT.o.h3;have AK:=lA.o.h3;rw [cU.o.1] at pL;rw [cU.o.2] at AK;have a6Q:=HD.o.few (aHT HF.o.1 rT pL) (aHT HF.o.2 Z7 AK);have HAS:=yN (yd rT Z7);have oK:=yN (yd pL AK);have O2:=yN a6Q;have hpa:=jT.o.h4;have kU:=lA.o.h4;rw [cU.o.1] at hpa;rw [cU.o.2] at kU;have lB:=yN (yd (List.pairwise_append.1 hpa).2.1 (List.pairwise_append.1 kU).2.1);clear j4 rT Z7 pL AK a6Q hpa kU;have RY:Hid (∀ n,jD B (wr.drewN n) sb x y z dP (l++m)):=yN fun n=>cZ.o.kept (lF wr n);have T7:Hid (∀ n,Kept V (wr.drewN n)∧V.heap.size≤B):=yN fun n=>⟨aB AQ.o.1 (lF wr n),AQ.o.2⟩;have SA:Hid (∀ n,eH sb w5 O1 (wr.drewN n) dP):=yN fun n=>HST.o.trans (eH.kept (lF wr n));cases pa with
  | nil=>
   obtain⟨ga,ca,rfl⟩:∃ a c,v9=yC a 0 c:=HA.o.shape;cases pb with
   | nil=>
    obtain⟨gb,cb,rfl⟩:∃ a c,v10=yC a 0 c:=HB.o.shape;go_wp2_with fail;go_end0;refine⟨rfl,dP,m,cZ.o,a89.o.trans HST.o,?_⟩;have hd:=HD.o;have e1:=cU.o.1;have e2:=cU.o.2;rw [zi] at e1 e2;rw [← e1,← e2] at hd;rw [← HKEY.o,CY key jT.o.h6 jT.o.h3,CY key lA.o.h6 lA.o.h3,← HOa.o,← HOb.o];exact hd
   | cons q pb=>
    obtain⟨gb,zQ,cb,rfl,qb1,qb2,f0,nY⟩:=LA HB.o vG.o;have E9:((0:Int)<(pb.length:Int)+1):=by omega
    have FA:decide ((pb.length:Int)+1=0)=false:=decide_eq_false (by omega);have zb2:decide ((0:Int)<(pb.length:Int)+1)=true:=decide_eq_true E9;have zb3:((pb.length:Int)+1 == 0)=false:=by simpa using FA
    go_wp2_with fail;go_quiet (fail);go_wp2_with fail;go_quiet (fail);go_wp2_with fail;refine (QO (f:=none_) (g:=behind (key++q.lab) q.f) (ahead:=key) (d1:=0) (d2:=db-q.lab.size) (o1:=yO) (o2:=yP q.b) (yN (RY.o _)) (yN (T7.o _)) (yN .nil) (yN (.node q.b q.lab q.f (lA.o.h5 q (by rw [cU.o.2];simp)) (by have h1:=HZ.o.2;have h2:=lA.o.h7 q (by rw [cU.o.2];simp);rw [eP];omega))) (.inl ⟨rfl,_,rfl⟩) (yN ⟨⟨[],by simp,fun _ _ h=>by cases h⟩,GX HF.o.2 lA.o.h6 (by rw [cU.o.2];simp)⟩) (yN (by have:=nP.o;have:=O2.o;rw [yy];omega))).mono ?_;rintro e w6 ⟨rfl,oN,m6,qL,lN,zG⟩;rw [zf] at qL
    have xY:=KB (ya:=[]) (yb:=[q]) HD.o (by rw [A4];exact zG) (fun u hu=>by
     have h1:=oK.o.1 u;have h2:=oK.o.2 u;simp only [za,yx,zc,or_false,false_or] at hu h1 h2;rcases hu with (hu | hu) | hu
     ·exact h1 hu
     ·exact h2 (.inl hu)
     ·subst hu;exact h2 (.inr (.inl rfl))
      ) (fun u hu v hv=>HC.o u hu v (by
     simp only [za,yx,zc,or_false,false_or] at hv ⊢
     subst hv;simp))
    have dQ:=yN (yd qL ((SA.o _).trans lN));have kX:=yN xY;clear qL lN zG xY;have T2:(1:Int)≤(pb.length:Int)+1:=by omega
    have T3:(1:Int)≤(cb:Int):=by omega
    have T4:(pb.length:Int)+1≤(cb:Int):=by omega
    by_cases hcb:cb=1
    ·subst hcb;have wL:Hid (pb.length=0):=yN (by omega);go_wp2_with fail;go_roundg (0+pb.length);case measure=>simp at hm ⊢;omega
     exact⟨_,_,xa,[],xb ++ [q],pb,oN,m++m6,rfl,rfl,ye _,yN ⟨by have:=cU.o.1;simpa using this,by have:=cU.o.2;simpa using this⟩,HA,yN (BD wL.o),yN dQ.o.1,yN dQ.o.2,yN (by simpa using kX.o),yN (fun u hu v hv=>by
     simp only [List.nil_append,za,yx,zc,or_false] at hu hv;rcases hu with hu | hu | rfl
     ·exact HC.o u (by simp [hu]) v (by simp only [List.nil_append,yx];exact .inr hv)
     ·exact HC.o u (by simp [hu]) v (by simp only [List.nil_append,yx];exact .inr hv)
     exact (yz.1 lB.o.2).1 v hv
     )⟩
    have OZ:¬ (cb-1=0):=by omega
    go_wp2_with fail;go_roundg (0+pb.length);case measure=>simp at hm ⊢;omega
    exact⟨_,_,xa,[],xb ++ [q],pb,oN,m++m6,rfl,rfl,ye _,yN ⟨by have:=cU.o.1;simpa using this,by have:=cU.o.2;simpa using this⟩,HA,yN nY.o,yN dQ.o.1,yN dQ.o.2,yN (by simpa using kX.o),yN (fun u hu v hv=>by
    simp only [List.nil_append,za,yx,zc,or_false] at hu hv;rcases hu with hu | hu | rfl
    ·exact HC.o u (by simp [hu]) v (by simp only [List.nil_append,yx];exact .inr hv)
    ·exact HC.o u (by simp [hu]) v (by simp only [List.nil_append,yx];exact .inr hv)
    exact (yz.1 lB.o.2).1 v hv
    )⟩
  | cons p pa=>
   obtain⟨ga,oa',ca,rfl,qa1,qa2,e0,CQ⟩:=LA HA.o vG.o;have za0:((0:Int)<(pa.length:Int)+1):=by omega
   have za1:decide ((pa.length:Int)+1=0)=false:=decide_eq_false (by omega);have za2:decide ((0:Int)<(pa.length:Int)+1)=true:=decide_eq_true za0;have za3:((pa.length:Int)+1 == 0)=false:=by simpa using za1
   cases pb with
   | nil=>
    obtain⟨gb,cb,rfl⟩:∃ a c,v10=yC a 0 c:=HB.o.shape;go_wp2_with fail;go_quiet (fail);go_wp2_with fail;refine (QO (f:=behind (key++p.lab) p.f) (g:=none_) (ahead:=key) (d1:=da-p.lab.size) (d2:=0) (o1:=yP p.b) (o2:=yO) (yN (RY.o _)) (yN (T7.o _)) (yN (.node p.b p.lab p.f (jT.o.h5 p (by rw [cU.o.1];simp)) (by have h1:=HZ.o.1;have h2:=jT.o.h7 p (by rw [cU.o.1];simp);rw [eP];omega))) (yN .nil) (.inr ⟨rfl,_,rfl⟩) (yN ⟨GX HF.o.1 jT.o.h6 (by rw [cU.o.1];simp),⟨[],by simp,fun _ _ h=>by cases h⟩⟩) (yN (by have:=nP.o;have:=O2.o;rw [yy];omega))).mono ?_;rintro e w6 ⟨rfl,oN,m6,qL,lN,zG⟩;rw [zf] at qL
    have xY:=KB (ya:=[p]) (yb:=[]) HD.o (by rw [A4];exact zG) (fun u hu=>by
     have h1:=oK.o.1 u;have h2:=oK.o.2 u;simp only [za,yx,zc,or_false] at hu h1 h2;rcases hu with (hu | hu) | hu
     ·exact h1 (.inl hu)
     ·exact h2 hu
     ·subst hu;exact h1 (.inr (.inl rfl))
      ) (fun u hu v hv=>HC.o u hu v (by
     simp only [za,yx,zc,or_false] at hv ⊢
     subst hv;simp))
    have dQ:=yN (yd qL ((SA.o _).trans lN));have kX:=yN xY;clear qL lN zG xY;have TY:(1:Int)≤(pa.length:Int)+1:=by omega
    have TZ:(1:Int)≤(ca:Int):=by omega
    have T1:(pa.length:Int)+1≤(ca:Int):=by omega
    by_cases pX:ca=1
    ·subst pX;have xW:Hid (pa.length=0):=yN (by omega);go_wp2_with fail;go_roundg (pa.length+0);case measure=>simp at hm ⊢;omega
     exact⟨_,_,xa ++ [p],pa,xb,[],oN,m++m6,rfl,rfl,ye _,yN ⟨by have:=cU.o.1;simpa using this,by have:=cU.o.2;simpa using this⟩,yN (BD xW.o),HB,yN dQ.o.1,yN dQ.o.2,yN (by simpa using kX.o),yN (fun u hu v hv=>by
     simp only [zi,za,yx,zc,or_false] at hu hv;rcases hu with (hu | rfl) | hu
     ·exact HC.o u (by simp [hu]) v (by simp only [za,yx,zc,or_false];exact .inr hv)
     ·exact (yz.1 lB.o.1).1 v hv
     exact HC.o u (by simp [hu]) v (by simp only [za,yx,zc,or_false];exact .inr hv))⟩
    have T5:¬ (ca-1=0):=by omega
    go_wp2_with fail;go_roundg (pa.length+0);case measure=>simp at hm ⊢;omega
    exact⟨_,_,xa ++ [p],pa,xb,[],oN,m++m6,rfl,rfl,ye _,yN ⟨by have:=cU.o.1;simpa using this,by have:=cU.o.2;simpa using this⟩,yN CQ.o,HB,yN dQ.o.1,yN dQ.o.2,yN (by simpa using kX.o),yN (fun u hu v hv=>by
    simp only [zi,za,yx,zc,or_false] at hu hv;rcases hu with (hu | rfl) | hu
    ·exact HC.o u (by simp [hu]) v (by simp only [za,yx,zc,or_false];exact .inr hv)
    ·exact (yz.1 lB.o.1).1 v hv
    exact HC.o u (by simp [hu]) v (by simp only [za,yx,zc,or_false];exact .inr hv))⟩
   | cons q pb=>
    obtain⟨gb,zQ,cb,rfl,qb1,qb2,f0,nY⟩:=LA HB.o vG.o;have hev:(bO X w5).cell? ⟨ga,oa',yO⟩=yP (yB (yP ⟨p.b,0,yO⟩))∧(bO X w5).cell? ⟨gb,zQ,yO⟩=yP (yB (yP ⟨q.b,0,yO⟩)):=by
     obtain⟨_,_,_,h1,_,_,h2,_⟩:=LA HA.o (fun _ _ h=>h);obtain⟨_,_,_,h3,_,_,h4,_⟩:=LA HB.o (fun _ _ h=>h);cases h1;cases h3;exact⟨h2,h4⟩
    have HEV:=yN hev;clear hev;have E9:((0:Int)<(pb.length:Int)+1):=by omega
    have FA:decide ((pb.length:Int)+1=0)=false:=decide_eq_false (by omega);have zb2:decide ((0:Int)<(pb.length:Int)+1)=true:=decide_eq_true E9;have zb3:((pb.length:Int)+1 == 0)=false:=by simpa using FA
    have iW:0<p.lab.size:=oK.o.1 p (by simp);have nD:0<q.lab.size:=oK.o.2 q (by simp);have xR:p∈ks:=by rw [cU.o.1];simp
    have FE:q∈ms:=by rw [cU.o.2];simp
    obtain⟨bHS,bHT,kvp,_,rp⟩:=(jT.o.h5 p xR).ri;obtain⟨bHU,bHV,kvq,_,rq⟩:=(lA.o.h5 q FE).ri;have O3:=yN (rp.h0.kept AQ.o.1);have O4:=yN (rq.h0.kept AQ.o.1);have i0:∀ w,(Instr.index 9 (yA p.lab) (yE yH 0)).run yM w=_:=aIT p.lab iW;have i1:∀ w,(Instr.index 9 (yA q.lab) (yE yH 0)).run yM w=_:=aIT q.lab nD;have hpq:p.b≠q.b∨p.b=q.b:=by by_cases h:p.b=q.b <;> simp [h]
    clear rp rq;by_cases h1:head p.lab<head q.lab
    ·have h1i:(head p.lab:Int)<(head q.lab:Int):=by omega
     go_wp2_with fail
     go_quiet (first
      | (go_at_call_of 258 (p.b);exact FU O3.o)
      | (go_at_call_of 258 (q.b);exact FU O4.o))
     go_wp2_with fail;refine (QO (f:=behind (key++p.lab) p.f) (g:=none_) (ahead:=key) (d1:=da-p.lab.size) (d2:=0) (o1:=yP p.b) (o2:=yO) (yN (RY.o _)) (yN (T7.o _)) (yN (.node p.b p.lab p.f (jT.o.h5 p (by rw [cU.o.1];simp)) (by have h1:=HZ.o.1;have h2:=jT.o.h7 p (by rw [cU.o.1];simp);rw [eP];omega))) (yN .nil) (.inr ⟨rfl,_,rfl⟩) (yN ⟨GX HF.o.1 jT.o.h6 (by rw [cU.o.1];simp),⟨[],by simp,fun _ _ h=>by cases h⟩⟩) (yN (by have:=nP.o;have:=O2.o;rw [yy];omega))).mono ?_;rintro e w6 ⟨rfl,oN,m6,qL,lN,zG⟩;rw [zf] at qL
     have xY:=KB (ya:=[p]) (yb:=[]) HD.o (by rw [A4];exact zG) (fun u hu=>by
      have h1:=oK.o.1 u;have h2:=oK.o.2 u;simp only [za,yx,zc,or_false] at hu h1 h2;rcases hu with (hu | hu) | hu
      ·exact h1 (.inl hu)
      ·exact h2 (.inl hu)
      ·subst hu;exact h1 (.inr (.inl rfl))
       ) (fun u hu v hv=>HC.o u hu v (by
      simp only [za,yx,zc,or_false] at hv ⊢
      subst hv;simp))
     have dQ:=yN (yd qL ((SA.o _).trans lN));have kX:=yN xY;clear qL lN zG xY;have TY:(1:Int)≤(pa.length:Int)+1:=by omega
     have TZ:(1:Int)≤(ca:Int):=by omega
     have T1:(pa.length:Int)+1≤(ca:Int):=by omega
     by_cases pX:ca=1
     ·subst pX;have xW:Hid (pa.length=0):=yN (by omega);go_wp2_with fail;go_roundg (pa.length+(pb.length+1));case measure=>simp at hm ⊢;omega
      exact⟨_,_,xa ++ [p],pa,xb,q::pb,oN,m++m6,rfl,rfl,ye _,yN ⟨by have:=cU.o.1;simpa using this,by have:=cU.o.2;simpa using this⟩,yN (BD xW.o),HB,yN dQ.o.1,yN dQ.o.2,yN (by simpa using kX.o),yN (fun u hu v hv=>by
      simp only [za,yx,zc,or_false] at hu hv;rcases hu with (hu | rfl) | hu
      ·exact HC.o u (by simp [hu]) v (by simp only [za,yx];rcases hv with hv | hv | hv <;> simp [hv])
      ·rcases hv with hv | rfl | hv
       ·exact (yz.1 lB.o.1).1 v hv
       ·exact h1
       exact Nat.lt_trans h1 ((yz.1 lB.o.2).1 v hv)
      exact HC.o u (by simp [hu]) v (by simp only [za,yx];rcases hv with hv | hv | hv <;> simp [hv]))⟩
     have T5:¬ (ca-1=0):=by omega
     go_wp2_with fail;go_roundg (pa.length+(pb.length+1));case measure=>simp at hm ⊢;omega
     exact⟨_,_,xa ++ [p],pa,xb,q::pb,oN,m++m6,rfl,rfl,ye _,yN ⟨by have:=cU.o.1;simpa using this,by have:=cU.o.2;simpa using this⟩,yN CQ.o,HB,yN dQ.o.1,yN dQ.o.2,yN (by simpa using kX.o),yN (fun u hu v hv=>by
     simp only [za,yx,zc,or_false] at hu hv;rcases hu with (hu | rfl) | hu
     ·exact HC.o u (by simp [hu]) v (by simp only [za,yx];rcases hv with hv | hv | hv <;> simp [hv])
     ·rcases hv with hv | rfl | hv
      ·exact (yz.1 lB.o.1).1 v hv
      ·exact h1
      exact Nat.lt_trans h1 ((yz.1 lB.o.2).1 v hv)
     exact HC.o u (by simp [hu]) v (by simp only [za,yx];rcases hv with hv | hv | hv <;> simp [hv]))⟩
    have h1i:¬ (head p.lab:Int)<(head q.lab:Int):=by omega
    have h1d:decide ((head p.lab:Int)<(head q.lab:Int))=false:=decide_eq_false h1i;by_cases h2:head q.lab<head p.lab
    ·have h2i:(head q.lab:Int)<(head p.lab:Int):=by omega
     go_wp2_with fail
     go_quiet (first
      | (go_at_call_of 258 (p.b);exact FU O3.o)
      | (go_at_call_of 258 (q.b);exact FU O4.o))
     go_wp2_with fail
     go_quiet (first
      | (go_at_call_of 258 (p.b);exact PY O3.o)
      | (go_at_call_of 258 (q.b);exact PY O4.o))
     go_wp2_with fail;refine (QO (f:=none_) (g:=behind (key++q.lab) q.f) (ahead:=key) (d1:=0) (d2:=db-q.lab.size) (o1:=yO) (o2:=yP q.b) (yN (RY.o _)) (yN (T7.o _)) (yN .nil) (yN (.node q.b q.lab q.f (lA.o.h5 q (by rw [cU.o.2];simp)) (by have h1:=HZ.o.2;have h2:=lA.o.h7 q (by rw [cU.o.2];simp);rw [eP];omega))) (.inl ⟨rfl,_,rfl⟩) (yN ⟨⟨[],by simp,fun _ _ h=>by cases h⟩,GX HF.o.2 lA.o.h6 (by rw [cU.o.2];simp)⟩) (yN (by have:=nP.o;have:=O2.o;rw [yy];omega))).mono ?_;rintro e w6 ⟨rfl,oN,m6,qL,lN,zG⟩;rw [zf] at qL
     have xY:=KB (ya:=[]) (yb:=[q]) HD.o (by rw [A4];exact zG) (fun u hu=>by
      have h1:=oK.o.1 u;have h2:=oK.o.2 u;simp only [za,yx,zc,or_false,false_or] at hu h1 h2;rcases hu with (hu | hu) | hu
      ·exact h1 (.inl hu)
      ·exact h2 (.inl hu)
      ·subst hu;exact h2 (.inr (.inl rfl))
       ) (fun u hu v hv=>HC.o u hu v (by
      simp only [za,yx,zc,or_false,false_or] at hv ⊢
      subst hv;simp))
     have dQ:=yN (yd qL ((SA.o _).trans lN));have kX:=yN xY;clear qL lN zG xY;have T2:(1:Int)≤(pb.length:Int)+1:=by omega
     have T3:(1:Int)≤(cb:Int):=by omega
     have T4:(pb.length:Int)+1≤(cb:Int):=by omega
     by_cases hcb:cb=1
     ·subst hcb;have wL:Hid (pb.length=0):=yN (by omega);go_wp2_with fail;go_roundg ((pa.length+1)+pb.length);case measure=>simp at hm ⊢;omega
      exact⟨_,_,xa,p::pa,xb ++ [q],pb,oN,m++m6,rfl,rfl,ye _,yN ⟨by have:=cU.o.1;simpa using this,by have:=cU.o.2;simpa using this⟩,HA,yN (BD wL.o),yN dQ.o.1,yN dQ.o.2,yN (by simpa using kX.o),yN (fun u hu v hv=>by
      simp only [za,yx,zc,or_false] at hu hv;rcases hu with hu | hu | rfl
      ·exact HC.o u (by simp [hu]) v (by simp only [za,yx];rcases hv with (hv | hv) | hv <;> simp [hv])
      ·exact HC.o u (by simp [hu]) v (by simp only [za,yx];rcases hv with (hv | hv) | hv <;> simp [hv])
      rcases hv with (rfl | hv) | hv
      ·exact h2
      ·exact Nat.lt_trans h2 ((yz.1 lB.o.1).1 v hv)
      exact (yz.1 lB.o.2).1 v hv)⟩
     have OZ:¬ (cb-1=0):=by omega
     go_wp2_with fail;go_roundg ((pa.length+1)+pb.length);case measure=>simp at hm ⊢;omega
     exact⟨_,_,xa,p::pa,xb ++ [q],pb,oN,m++m6,rfl,rfl,ye _,yN ⟨by have:=cU.o.1;simpa using this,by have:=cU.o.2;simpa using this⟩,HA,yN nY.o,yN dQ.o.1,yN dQ.o.2,yN (by simpa using kX.o),yN (fun u hu v hv=>by
     simp only [za,yx,zc,or_false] at hu hv;rcases hu with hu | hu | rfl
     ·exact HC.o u (by simp [hu]) v (by simp only [za,yx];rcases hv with (hv | hv) | hv <;> simp [hv])
     ·exact HC.o u (by simp [hu]) v (by simp only [za,yx];rcases hv with (hv | hv) | hv <;> simp [hv])
     rcases hv with (rfl | hv) | hv
     ·exact h2
     ·exact Nat.lt_trans h2 ((yz.1 lB.o.1).1 v hv)
     exact (yz.1 lB.o.2).1 v hv)⟩
    have h2i:¬ (head q.lab:Int)<(head p.lab:Int):=by omega
    have h2d:decide ((head q.lab:Int)<(head p.lab:Int))=false:=decide_eq_false h2i;have heq:head p.lab=head q.lab:=by omega
    go_wp2_with fail
    go_quiet (first
     | (go_at_call_of 258 (p.b);exact FU O3.o)
     | (go_at_call_of 258 (q.b);exact FU O4.o))
    generalize nq=n1;go_wp2_with fail
    go_quiet (first
     | (go_at_call_of 258 (p.b);exact PY O3.o)
     | (go_at_call_of 258 (q.b);exact PY O4.o))
    go_wp2_with fail;have iF:=yN (aB (lF wr n1) (lF (wr.drewN n1) nq));generalize (wr.drewN n1).drewN nq=wq at *;have aR:=yN (dY iF.o);refine jE (fun W:World=>W.cell? ⟨ga,oa',yO⟩=yP (yB (yP ⟨p.b,0,yO⟩))∧W.cell? ⟨gb,zQ,yO⟩=yP (yB (yP ⟨q.b,0,yO⟩))) 9 ⟨aR.o.cell e0,aR.o.cell f0⟩ fun HS=>?_;clear iF;generalize wq.drew=w4 at *;refine tH 0 HS ?_;refine tH 1 HS ?_;refine tH 2 HS ?_;refine tH 3 HS ?_;refine tH 4 HS ?_;refine tH 5 HS ?_;refine tH 6 HS ?_;refine tH 7 HS ?_;go_frame;refine oH 8 fun K hK=>?_;go_simp;refine (ih (k-1) (by have:=jT.o.h7 p xR;omega) (da-p.lab.size) (db-q.lab.size) B V w4 sb x y z dP (l++m) p.b q.b p.lab q.lab p.f q.f key (by omega) (yN (cZ.o.kept aR.o)) (yN ⟨aB AQ.o.1 aR.o,AQ.o.2⟩) (yN ⟨jT.o.h5 p xR,lA.o.h5 q FE⟩) (yN ⟨by have h1:=HZ.o.1;have h2:=jT.o.h7 p xR;rw [eP];omega,by have h1:=HZ.o.2;have h2:=lA.o.h7 q FE;rw [eP];omega⟩) (yN ⟨GX HF.o.1 jT.o.h6 xR,GX HF.o.2 lA.o.h6 FE⟩) (yN (by have h1:=nP.o;have h2:=O2.o;have h3:=jT.o.h7 p xR;obtain⟨k',rfl⟩:∃ k',k=k'+1:=⟨k-1,by omega⟩;rw [yy];simp only [Nat.add_sub_cancel];omega))).mono ?_;rintro e w6 ⟨rfl,oN,m6,qL,lN,zG⟩;rw [zf] at qL
    have xY:=KB (ya:=[p]) (yb:=[q]) HD.o (by rw [A4,A4];exact zG) (fun u hu=>by
     have h1:=oK.o.1 u;have h2:=oK.o.2 u;simp only [za,yx,zc,or_false] at hu h1 h2;rcases hu with (hu | hu) | hu
     ·exact h1 (.inl hu)
     ·exact h2 (.inl hu)
     ·rcases hu with rfl | rfl
      ·exact h1 (.inr (.inl rfl))
      exact h2 (.inr (.inl rfl))) (fun u hu v hv=>HC.o u hu v (by
     simp only [za,yx,zc,or_false] at hv ⊢
     rcases hv with rfl | rfl <;> simp))
    have dQ:=yN (yd qL ((HST.o.trans (eH.kept aR.o)).trans lN));have kX:=yN xY;clear qL lN zG xY;have aJ4:∀ q u,(bO X w5).cell? q=yP u→w6.cell? q=yP u:=fun q u hq=>by
     obtain⟨h1,h2⟩:=GI hq;obtain⟨a1,a2,a3⟩:=SQ.o _ h1;exact (zn (dQ.o.2.same _ a1 a2 a3)).trans h2
    refine hK _ _ ⟨aJ4 _ _ HEV.o.1,aJ4 _ _ HEV.o.2⟩ ?_;have nB:Kept w6 w6.drew:=ym (yk _ _);have BZ:=yN (yd (dQ.o.1.kept nB) (dQ.o.2.trans (eH.kept nB)));clear hK K aJ4 HS aR nB;refine dA ?_;have TY:(1:Int)≤(pa.length:Int)+1:=by omega
    have TZ:(1:Int)≤(ca:Int):=by omega
    have T1:(pa.length:Int)+1≤(ca:Int):=by omega
    have T2:(1:Int)≤(pb.length:Int)+1:=by omega
    have T3:(1:Int)≤(cb:Int):=by omega
    have T4:(pb.length:Int)+1≤(cb:Int):=by omega
    by_cases pX:ca=1
    ·subst pX;have xW:Hid (pa.length=0):=yN (by omega);by_cases hcb:cb=1
     ·subst hcb;have wL:Hid (pb.length=0):=yN (by omega);go_wp2_with fail;go_region;go_wp2_with fail;go_roundg (pa.length+pb.length);case measure=>simp at hm ⊢;omega
      exact⟨_,_,xa ++ [p],pa,xb ++ [q],pb,oN,m++m6,rfl,rfl,ye _,yN ⟨by have:=cU.o.1;simpa using this,by have:=cU.o.2;simpa using this⟩,yN (BD xW.o),yN (BD wL.o),yN BZ.o.1,yN BZ.o.2,yN (by simpa using kX.o),yN (fun u hu v hv=>by
      simp only [za,yx,zc,or_false] at hu hv;have mQ:v∈pa∨v∈pb→head p.lab<head v.lab:=fun h=>by
       rcases h with h | h
       ·exact (yz.1 lB.o.1).1 v h
       have:=(yz.1 lB.o.2).1 v h;omega
      rcases hu with (hu | rfl) | (hu | rfl)
      ·exact HC.o u (by simp [hu]) v (by rcases hv with hv | hv <;> simp [hv])
      ·exact mQ hv
      ·exact HC.o u (by simp [hu]) v (by rcases hv with hv | hv <;> simp [hv])
      have:=mQ hv;omega)⟩
     have OZ:¬ (cb-1=0):=by omega
     go_wp2_with fail;go_region;go_wp2_with fail;go_roundg (pa.length+pb.length);case measure=>simp at hm ⊢;omega
     exact⟨_,_,xa ++ [p],pa,xb ++ [q],pb,oN,m++m6,rfl,rfl,ye _,yN ⟨by have:=cU.o.1;simpa using this,by have:=cU.o.2;simpa using this⟩,yN (BD xW.o),yN nY.o,yN BZ.o.1,yN BZ.o.2,yN (by simpa using kX.o),yN (fun u hu v hv=>by
     simp only [za,yx,zc,or_false] at hu hv;have mQ:v∈pa∨v∈pb→head p.lab<head v.lab:=fun h=>by
      rcases h with h | h
      ·exact (yz.1 lB.o.1).1 v h
      have:=(yz.1 lB.o.2).1 v h;omega
     rcases hu with (hu | rfl) | (hu | rfl)
     ·exact HC.o u (by simp [hu]) v (by rcases hv with hv | hv <;> simp [hv])
     ·exact mQ hv
     ·exact HC.o u (by simp [hu]) v (by rcases hv with hv | hv <;> simp [hv])
     have:=mQ hv;omega)⟩
    have T5:¬ (ca-1=0):=by omega
    by_cases hcb:cb=1
    ·subst hcb;have wL:Hid (pb.length=0):=yN (by omega);go_wp2_with fail;go_region;go_wp2_with fail;go_roundg (pa.length+pb.length);case measure=>simp at hm ⊢;omega
     exact⟨_,_,xa ++ [p],pa,xb ++ [q],pb,oN,m++m6,rfl,rfl,ye _,yN ⟨by have:=cU.o.1;simpa using this,by have:=cU.o.2;simpa using this⟩,yN CQ.o,yN (BD wL.o),yN BZ.o.1,yN BZ.o.2,yN (by simpa using kX.o),yN (fun u hu v hv=>by
     simp only [za,yx,zc,or_false] at hu hv;have mQ:v∈pa∨v∈pb→head p.lab<head v.lab:=fun h=>by
      rcases h with h | h
      ·exact (yz.1 lB.o.1).1 v h
      have:=(yz.1 lB.o.2).1 v h;omega
     rcases hu with (hu | rfl) | (hu | rfl)
     ·exact HC.o u (by simp [hu]) v (by rcases hv with hv | hv <;> simp [hv])
     ·exact mQ hv
     ·exact HC.o u (by simp [hu]) v (by rcases hv with hv | hv <;> simp [hv])
     have:=mQ hv;omega)⟩
    have OZ:¬ (cb-1=0):=by omega
    go_wp2_with fail;go_region;go_wp2_with fail;go_roundg (pa.length+pb.length);case measure=>simp at hm ⊢;omega
    exact⟨_,_,xa ++ [p],pa,xb ++ [q],pb,oN,m++m6,rfl,rfl,ye _,yN ⟨by have:=cU.o.1;simpa using this,by have:=cU.o.2;simpa using this⟩,yN CQ.o,yN nY.o,yN BZ.o.1,yN BZ.o.2,yN (by simpa using kX.o),yN (fun u hu v hv=>by
    simp only [za,yx,zc,or_false] at hu hv;have mQ:v∈pa∨v∈pb→head p.lab<head v.lab:=fun h=>by
     rcases h with h | h
     ·exact (yz.1 lB.o.1).1 v h
     have:=(yz.1 lB.o.2).1 v h;omega
    rcases hu with (hu | rfl) | (hu | rfl)
    ·exact HC.o u (by simp [hu]) v (by rcases hv with hv | hv <;> simp [hv])
    ·exact mQ hv
    ·exact HC.o u (by simp [hu]) v (by rcases hv with hv | hv <;> simp [hv])
    have:=mQ hv;omega)⟩
 have a9A:decide (la=lb)=false:=decide_eq_false uA;rw [a9A] at uJ;clear ra rb a9A;go_enter func184,ntmps184;go_wp2_with fail;refine (wX a la IG IE FC W uU.o).mono ?_;rintro e w' ⟨rfl,rfl⟩;go_wp2_with fail;refine (wX b lb MH MG T6 W wM.o).mono ?_;rintro e w' ⟨rfl,rfl⟩;go_wp2_with fail;obtain⟨f,hf⟩:∃ f,f=behind (ahead++la) fa:=⟨_,rfl⟩;obtain⟨g,hg⟩:∃ g,g=behind (ahead++lb) fb:=⟨_,rfl⟩;have h1:Hid (Sd V ahead da (yP a) f):=yN (by rw [hf];exact .node a la fa HR.o.1 HZ.o.1);have h2:Hid (Sd V ahead db (yP b) g):=yN (by rw [hg];exact .node b lb fb HR.o.2 HZ.o.2);rw [← hf,← hg] at HF;have HFG:=yN (yd hf hg);have nP:Hid (l.length≤900000):=yN (by have:=nP.o;omega);clear hf hg;refine (QN ahead da _ f W (h1.o.kept iX.o.1) (HF.o.1.mono (by omega))).mono ?_;rintro e w1 ⟨s1,jG,v1,rfl,gH,aS⟩;have eE:=yN gH;have aJ:=yN aS;have jU:=yN jG;clear gH aS jG;go_wp2_with fail;refine (QN ahead db _ g w1 ((h2.o.kept iX.o.1).kept aJ.o) (HF.o.2.mono (by omega))).mono ?_;rintro e w2 ⟨s2,hl2,v2,rfl,cI,hk2⟩;have ME:=yN (bT eE.o hk2);have dZ:=yN cI;have aH:=yN (aB aJ.o hk2);have iZ:=yN hl2;clear cI hk2 hl2;go_wp2_with fail;refine (C0 B w2 sb x y z sv l v1 v2 s1 s2 _ _ (HS.o.kept aH.o) ME.o dZ.o jU.o.1 iZ.o.1 (by have:=nP.o;have:=jU.o.few HF.o.1;have:=iZ.o.few HF.o.2;omega)).mono ?_;rintro e w3 ⟨rfl,tG,m2,iD,rY,iR⟩;rw [jU.o.wY.2,iZ.o.wY.2] at iR;have HE:=yN (yd iD (yd ((eH.kept aH.o).trans rY) iR));clear iD rY iR;go_wp2_with fail;go_end0;exact⟨rfl,tG,m2,HE.o.1,HE.o.2.1,by rw [← HFG.o.1,← HFG.o.2];exact HE.o.2.2⟩
theorem aWG (k:Nat):XU k:=Nat.strongRecOn k fun k ih=>aTT k ih
end
section
open Go.Shelf
attribute [local go_sem] Oper.semAt_some
variable {w W W':World} {pre:List Nat} {X:Nat→Bool}
def ItU (n:Nat) (w0:World) (F:Nat) (eN:Array Value) (Ok Fin:List Nat→Prop):Prop:=
 ∀ (l:Nat) (J:(Nat→Bool)→List Nat→World→Prop) (W:World),Kept w0 W→
  (∀ X Y pre W W',J X pre W→qK X Y W W'→J Y pre W')→
  (∀ X pre (x:Nat) W,J X pre W→Ok (pre ++ [x])→Kept w0 W→YieldAt Fence.wide (n-1) yM l #[yE yI x] W fun e W'=>
   e = .returned (yD true)∧J X (pre ++ [x]) W'∧(∀ i,X i=true→W'.heap[i]?=W.heap[i]?)∧Below w0.heap.size W W')→
  J (fun _=>false) [] W→
  CallsIn Fence.wide n yM F (#[.func (.yield l) #[] #[]]++eN) W fun e W'=>(∃ v,e = .returned v)∧Kept w0 W'∧∃ X xs,Fin xs∧J X xs W'
def aTN (X:Nat→Bool) (B b0:Nat) (I:(Nat→Bool)→List Nat→World→Prop) (xs:List Nat) (W:World):Exit→Act→World→Prop
 | .normal,_,W'=>Leave X B b0 W W'∧I X xs W'
 | _,_,_=>False
theorem aR0 {g:Operand} {ps:Array Tmp} {assign body:Code} {Q:Exit→Act→World→Prop} {a:Act} {w0:World} {n F:Nat} {eN:Array Value} {Ok Fin:List Nat→Prop} (hn:4≤n)
  (hg:a.eval g=yG (.func F) #[] eN) (ET:ps.size=1) (enter:∀ args W,(callFunc F args).run yM W = .ok (.enter F args) W) (bF:Kept w0 w) (hit:ItU (n-1) w0 F eN Ok Fin)
  (I:(Nat→Bool)→List Nat→World→Prop)
  (hI:∀ X pre W W',I X pre W→qO w.heap.size W W'→I X pre W') (hM:∀ X Y pre W W',I X pre W→qK X Y W W'→I Y pre W')
  (hX:∀ X pre W,I X pre W→∀ i,X i=true→i<W.heap.size)
  (h0:I (fun _=>false) [] w) (a₁:Nat→Act)
  (WW:∀ (l x:Nat) (W:World) (K:Act→World→Prop),K (a₁ x) W→
   assign.wpIn (Fence.wide.inRound l) (n-1-1) yM (Exit.then K (fun _ _ _=>False)) { tmps:=(ps.zip #[yE yI x]).foldl (fun t (p,v)=>t.setIfInBounds p v) a.tmps,defers:=[] } W)
  (YB:∀ (l:Nat) (X:Nat→Bool) (pre:List Nat) (x:Nat) (W:World),I X pre W→Ok (pre ++ [x])→w.heap.size≤W.heap.size→Kept w0 W→
   body.wpIn (Fence.wide.inRound l) (n-1-1) yM (aTN X w.heap.size w0.heap.size I (pre ++ [x]) W) (a₁ x) W)
  (hdone:∀ (D:Nat) (X:Nat→Bool) (xs:List Nat) (W:World),Fin xs→w.heap.size≤D→I X xs W→Kept w0 W→W.heap[D]?=yP (.deferred (yP []))→Q .normal { a with defers:={ target:=.collected D,args:=#[] } :: a.defers } W) :
  (Code.rangeFunc g ps assign body).wpIn Fence.wide n yM Q a w:=by
 refine wpIn_rangeFunc ?_;intro fn _;show ∃ _,_;obtain⟨book,mW⟩:∃ book:LoopState→Option Code→Loop,book=fun st pe=>{ state:=st,pending:=pe,fn,tmps:=a.tmps,params:=ps,assign,body,defers:=w.heap.size }:=⟨_,rfl⟩;obtain⟨W1,hW1⟩:∃ W1,(w.alloc (.deferred (yP []))).alloc (.loop (book .ready yO))=W1:=⟨_,rfl⟩;have l1:W1.heap[w.heap.size+1]?=yP (.loop (book .ready yO)):=by
  rw [← hW1];have h:=World.alloc_heap_new (w.alloc (.deferred (yP []))) (.loop (book .ready yO));rwa [World.size_alloc] at h
 have d1:W1.heap[w.heap.size]?=yP (.deferred (yP [])):=by
  rw [← hW1];exact (Below.heap_alloc _ _ _ (by simp)).trans (World.alloc_heap_new w _)
 have i1:I (fun _=>false) [] W1:=by rw [← hW1];exact hI _ _ _ _ (hI _ _ _ _ h0 (.alloc _ _ _)) (.alloc _ _ _)
 have k1:Kept w0 W1:=by
  have h1:=bF.size;rw [← hW1];exact (bF.alloc h1 _).alloc (by simp;omega) _
 refine⟨w.heap.size+1,[{ target:=.collected w.heap.size,args:=#[] }],W1,{ target:=.fn (.func F) eN,args:=#[.func (.yield (w.heap.size+1)) #[] #[]] },W1,F,
  #[.func (.yield (w.heap.size+1)) #[] #[]]++eN,W1,?_,?_,fun _ _=>trivial,?_,fun _=>by omega,?_⟩
 ·rw [← hW1,mW];exact run_enterLoop_outer _ _ _ _ _
 ·simp only [resolve,hg];simp [go_sem]
 ·simp [invoke,go_sem,enter]
 refine (hit (w.heap.size+1)
  (fun X pre W=>I X pre W∧W.heap[w.heap.size+1]?=yP (.loop (book .ready yO))∧W.heap[w.heap.size]?=yP (.deferred (yP []))∧w.heap.size≤W.heap.size∧X (w.heap.size+1)=false∧X w.heap.size=false) W1 k1
  ?_ ?_ ⟨i1,l1,d1,by rw [← hW1];simp;omega,rfl,rfl⟩).mono ?_
 ·rintro X Y pre W W' ⟨p1,p2,p3,p4,p5,p6⟩ hm;have q2:=(yo.1 p2).1;have hs:=hm.size;refine⟨hM _ _ _ _ _ p1 hm,(hm.same _ q2 p5).trans p2,(hm.same _ (by omega) p6).trans p3,by omega,?_,?_⟩
  ·cases e:Y (w.heap.size+1) with
   | false=>rfl
   | true=>rcases (hm.sub _ e).2 with h | h;rw [p5] at h;cases h;omega
  cases e:Y w.heap.size with
  | false=>rfl
  | true=>rcases (hm.sub _ e).2 with h | h;rw [p6] at h;cases h;omega
 ·rintro X pre p W ⟨hi,hl,hd,hsz,hx1,hx2⟩ eW oG;have hlt:w.heap.size+1<W.heap.size:=(yo.1 hl).1;have hy:=run_yield (P:=yM) (args:=#[yE yI p]) hl (by rw [mW];exact ET.symm);rw [mW] at hy;have aK8:=oG.size;refine⟨fn,_,assign,body,hy,roundIn_of_wpIn trivial (WW _ p W _ ⟨_,run_beginRound hl (by rw [mW]),?_⟩)⟩;obtain⟨Wb,sW⟩:∃ Wb,W.putObj (w.heap.size+1) (.loop { book .ready yO with state:=.busy })=Wb:=⟨_,rfl⟩;have lb:Wb.heap[w.heap.size+1]?=yP (.loop { book .ready yO with state:=.busy }):=by rw [← sW];exact World.putObj_heap_same (by omega)
  have db:Wb.heap[w.heap.size]?=yP (.deferred (yP [])):=by rw [← sW];exact (World.putObj_heap_other (by omega)).trans hd
  have nb:qO w.heap.size W Wb:=by rw [← sW];exact .put _ _ _ hl (by omega) rfl
  have ib:I X pre Wb:=hI _ _ _ _ hi nb;have sb:w.heap.size≤Wb.heap.size:=by have:=nb.size;omega
  have kb:Below w0.heap.size W Wb:=by rw [← sW];exact⟨rfl,rfl,rfl,by simp,fun i hi=>World.putObj_heap_other (by have:=bF.size;omega)⟩
  have xb:∀ i,X i=true→Wb.heap[i]?=W.heap[i]?:=fun i hi'=>by
   have h2:i≠w.heap.size+1:=by rintro rfl;rw [hx1] at hi';cases hi'
   rw [← sW,World.putObj_heap_other h2]
  rw [sW];refine wpIn_mono (YB _ X pre p Wb ib eW sb (yn oG kb)) ?_;rintro e a3 W3 hp;cases e with
  | normal=>
   obtain⟨hv,zZ⟩:=hp;have l3:=hv.same _ _ (by omega) lb rfl;have d3:=hv.same _ _ (ye _) db rfl;have h:=run_endRound (P:=yM) yO l3;rw [mW] at h l3 ⊢;have n3:qO w.heap.size W3 (W3.putObj (w.heap.size+1) (.loop (book .ready yO))):=.put _ _ _ l3 (by omega) rfl;have hz:=hv.below.size;refine⟨_,_,h,rfl,⟨?_,?_,?_,?_,hx1,hx2⟩,?_,?_⟩;·rw [mW] at n3;exact hI _ _ _ _ zZ n3
   ·exact World.putObj_heap_same (yo.1 l3).1
   ·exact (World.putObj_heap_other (by omega)).trans d3
   ·simp;omega
   ·intro i hi';have h2:i≠w.heap.size+1:=by rintro rfl;rw [hx1] at hi';cases hi'
    exact (World.putObj_heap_other h2).trans ((hv.keep i hi').trans (xb i hi'))
   refine (kb.trans hv.below).trans ⟨rfl,rfl,rfl,by simp,fun i hi=>World.putObj_heap_other (by have:=bF.size;omega)⟩
  | ret=>exact hp.elim
  | exit id=>exact hp.elim
  | goto t=>exact hp.elim
  | panic ch=>exact hp.elim
  | outgrown=>exact hp.elim
 rintro e W2 ⟨⟨v,rfl⟩,hk2,X,xs,kL,hi,hl,hd,hs2,_,_⟩;refine⟨yO,_,by have h:=run_endLoop (P:=yM) hl (by rw [mW];simp);rw [mW] at h;exact h,hdone _ X xs _ kL (ye _) (hI _ _ _ _ hi (.put _ _ _ hl (by omega) rfl)) ?_ ((World.putObj_heap_other (by omega)).trans hd)⟩;exact yn hk2 ⟨rfl,rfl,rfl,by simp,fun i hi=>World.putObj_heap_other (by have:=bF.size;omega)⟩
structure BL (w:World) (X:Nat→Bool) (pre:List Nat) (W:World):Prop where
 s:∃ v,W.heap[w.heap.size]?=yP (yL #[v] 38)∧W.ownsRow (w.heap.size+1) 35 1 v pre.length (cW pre)∧∀ g,v.ownBlock=yP g→X g=false
 b:X w.heap.size=false
 x:∀ i,X i=true→i<W.heap.size
theorem BL.ZJ {C:Nat} (h:BL w X pre W) (hn:qO C W W'):BL w X pre W':=by
 obtain⟨⟨v,hb,hr,hx⟩,h1,h2⟩:=h;refine⟨⟨v,hn.same _ _ hb (.inr rfl),cF hr fun g hg=>?_,hx⟩,h1,fun i hi=>yi (h2 i hi) hn.size⟩;obtain⟨cur,hc⟩:=dX hr hg;exact (hn.same _ _ hc (.inr rfl)).trans hc.symm
theorem BL.moves {Y:Nat→Bool} (h:BL w X pre W) (hm:qK X Y W W'):BL w Y pre W':=by
 obtain⟨⟨v,hb,hr,hx⟩,h1,h2⟩:=h;have hl:=(yo.1 hb).1;have L8:∀ g,g<W.heap.size→X g=false→Y g=false:=fun g hg N2=>by
  cases e:Y g with
  | false=>rfl
  | true=>rcases (hm.sub g e).2 with h | h;rw [N2] at h;cases h;omega
 exact⟨⟨v,(hm.same _ hl h1).trans hb,cF hr fun g hg=>hm.same g (hr.lt g hg).2 (hx g hg),fun g hg=>L8 g (hr.lt g hg).2 (hx g hg)⟩,L8 _ hl h1,fun i hi=>(hm.sub i hi).1⟩
theorem aQV (n:Nat) (w:World) (F:Nat) (eN:Array Value) (Ok Fin:List Nat→Prop) (hn:4≤n) (zK:∀ l,Ok l→l.length≤100000) (enter:∀ args W,(callFunc F args).run yM W = .ok (.enter F args) W) (hit:ItU (n-1) w F eN Ok Fin) :
  CallsIn Fence.wide n yM 343 #[yC yO 0 0,yG (.func F) #[] eN] w fun e w'=>
   ∃ v xs,e = .returned v∧Fin xs∧w'.ownsRow w.heap.size 35 1 v xs.length (cW xs)∧Kept w w':=by
 obtain⟨i0,hi,hz0,hz1,hz2⟩:=info_parts XI;obtain⟨w1,cR⟩:∃ w1,w1=w.alloc (yL #[yC yO 0 0] 38):=⟨_,rfl⟩;have hs:w1.heap.size=w.heap.size+1:=by rw [cR];simp
 have aS:Kept w w1:=by rw [cR];exact (yk _ w).alloc (ye _) _
 have hb1:w1.heap[w.heap.size]?=yP (yL #[yC yO 0 0] 38):=by rw [cR];exact World.alloc_heap_new w _
 refine callsIn_of_wp_marks func343 rfl trivial ?_ rfl;simp only [ntmps343,List.size_toArray,zh,List.length_nil,Nat.reduceAdd,Nat.reduceSub,Array.replicate_succ,Array.replicate_zero,List.push_toArray,List.append_toArray,List.nil_append,List.cons_append]
 gi_wp2
 rw [← cR]
 refine aR0 (w0:=w) (Ok:=Ok) (Fin:=Fin) hn rfl rfl enter aS hit (BL w) (fun _ _ _ _ h hne=>h.ZJ hne) (fun _ _ _ _ _ h hm=>h.moves hm) (fun _ _ _ h=>h.x)
  ⟨⟨_,hb1,World.ownsRow_nil _ _ _ _,fun g hg=>rfl⟩,rfl,fun i hi=>by cases hi⟩
  (fun x=>{ tmps:=#[yC yO 0 0,yG (.func F) #[] eN,yB (yP ⟨w.heap.size,0,yO⟩),undef,yC yO 0 0,yE yI x,yG (.func F) #[] eN,yE yI x,undef,undef,undef,undef,undef],defers:=[] }) ?assign ?body ?done
 case assign=>
  intro l p W K hK
  gi_wp2
  exact hK
 case body=>
  rintro l X pre p W ⟨⟨v,hb,hrow,hx⟩,fP,L9⟩ eW hle oG;rw [hs] at hle ⊢;have hc:W.cell? ⟨w.heap.size,0,yO⟩=yP v:=aG hb rfl;have hlen:pre.length+1≤100000:=by
   have h1:=zK _ eW;simp at h1;omega
  have hZ:w.heap.size+1≤(W.alloc (yL #[yE yI (p:Nat)] 35)).heap.size:=by simp;omega
  have h1c:∀ u∈[Value.int .u32 (p:Nat)],u.oneCell'=true:=by intro u hu;simp at hu;rcases hu with rfl;rfl
  have hmx:pre.length+1≤maxLen:=by unfold maxLen;omega
  have N3:=QH W [yE yI (p:Nat)] 35;have HH:=yN (yd oG (yd hx (yd fP L9)));have HW:=yN (yd hb hle)
  gi_wp2_with (gi_at_builtin;refine wpListIn_append_own_at _ rfl _ _ 38 rfl (w.heap.size+1) 35 i0 (yE yI 0) 1 4 underlying38 hi hz0 hz1 hz2 rfl (by decide) _ _ _ rfl (hrow.alloc _) ⟨W.heap.size,0,yO⟩ 1 1 [yE yI (p:Nat)] rfl rfl N3 h1c hmx (by omega) hZ ?_)
  intro v' wa hown' hgrow _ hat;obtain⟨g,cap,rfl⟩:=ownsRow_succ hown';have hown2:∀ q,v.ownBlock=yP q→w.heap.size+1≤q∧q<W.heap.size∧∃ cur,W.heap[q]?=yP (yL cur 35 (0,0)):=fun q hq=>⟨(hrow.lt q hq).1,(hrow.lt q hq).2,dX hrow hq⟩;have keep:∀ q,q<W.heap.size→v.ownBlock≠yP q→wa.heap[q]?=W.heap[q]?:=fun q hq hne=>by
   rw [hgrow.block q (by simp;omega) (fun e=>hne e.symm)];exact Below.heap_alloc W _ q hq
  have eI:w.heap.size<W.heap.size:=by omega
  have ZK:v.ownBlock≠yP w.heap.size:=fun e=>by have:=(hown2 _ e).1;omega
  have hb2:=(keep _ eI ZK).trans HW.o.1;have hc2:wa.cell? ⟨w.heap.size,0,yO⟩=yP v:=aG hb2 rfl;have hf2:wa.frozen? ⟨w.heap.size,0,yO⟩=false:=aU hb2;have iU:=heap_setCell (o:=0) (v:=yC (yP ⟨g,0,yO⟩) (pre.length+1) cap) hb2;have hga:=(hown'.lt g rfl).1;have EB:=hgrow.size;have ZL:Below w.heap.size W wa:=Below.grown ((yk _ W).alloc (by omega) _) hgrow (by simp;omega) (fun q hq=>by have:=(hown2 q hq).1;omega);have hbl:Below w.heap.size W (wa.setCell ⟨w.heap.size,0,yO⟩ (yC (yP ⟨g,0,yO⟩) (pre.length+1) cap)):=ZL.setCell (by show w.heap.size≤w.heap.size;exact ye _) _;have KV:∀ q,q<W.heap.size→q≠w.heap.size→v.ownBlock≠yP q→(wa.setCell ⟨w.heap.size,0,yO⟩ (yC (yP ⟨g,0,yO⟩) (pre.length+1) cap)).heap[q]?=W.heap[q]?:=fun q hq h1 h2=>by
   rw [yl _ _ _ _ (by simpa using h1)];exact keep q hq h2
  have hLv:Leave X (w.heap.size+1) w.heap.size W (wa.setCell ⟨w.heap.size,0,yO⟩ (yC (yP ⟨g,0,yO⟩) (pre.length+1) cap)):=by
   refine⟨hbl,fun i hi'=>?_,fun q o hq ho kQ=>?_⟩
   ·refine KV i (HH.o.2.2.2 i hi') (fun e=>?_) (fun e=>?_);·rw [e,HH.o.2.2.1] at hi';cases hi'
    rw [HH.o.2.1 i e] at hi';cases hi'
   refine (KV q (yo.1 ho).1 (by omega) (fun e=>?_)).trans ho;obtain⟨_,_,cur,fC⟩:=hown2 q e;rw [ho] at fC;cases fC;cases kQ
  have hGa:BL w X (pre ++ [p]) (wa.setCell ⟨w.heap.size,0,yO⟩ (yC (yP ⟨g,0,yO⟩) (pre.length+1) cap)):=by
   refine⟨⟨_,iU,?_,fun q hq=>?_⟩,HH.o.2.2.1,fun i hi'=>yi (HH.o.2.2.2 i hi') hbl.size⟩
   ·have:=hown'.kept (grownBy_setCell' wa w.heap.size (yC (yP ⟨g,0,yO⟩) (pre.length+1) cap)) (.inr (by simp [Value.ownBlock];omega));rw [yy,show cW (pre ++ [p])=cW pre ++ [yE yI (p:Nat)] by simp [cW]];exact this
   rcases hat with e | e
   ·exact HH.o.2.1 q (e.symm.trans hq)
   rw [hq] at e;cases e':X q with
   | false=>rfl
   | true=>
    have h8:=HH.o.2.2.2 q e';have h9:q=W.heap.size+1:=Option.some.inj e;omega
  have HL:=yN hLv;have HG:=yN hGa
  gi_wp2
  exact⟨HL.o,HG.o⟩
 case done=>
  rintro D X xs W kL hD ⟨⟨v,hb,hrow,hx⟩,fP,L9⟩ oG hK;have hc:W.cell? ⟨w.heap.size,0,yO⟩=yP v:=aG hb rfl;dsimp only
  gi_wp2
  refine⟨by simp,.inl ⟨_,_,rfl,run_takeDeferred hK,?_⟩⟩;refine⟨_,results_tmp rfl _ _ _,v,xs,rfl,kL,dG (hrow.kept (grownBy_putObj' W D (.deferred yO)) (.inr fun e=>?_)) (by omega),?_⟩
  ·obtain⟨cur,hc⟩:=dX hrow e;rw [hc] at hK;cases hK
  exact yn oG ⟨rfl,rfl,rfl,by simp,fun i hi=>World.putObj_heap_other (by omega)⟩
theorem aV5 (w:World) (F:Nat) (eN:Array Value) (Ok Fin:List Nat→Prop) (zK:∀ l,Ok l→l.length≤100000) (enter:∀ args W,(callFunc F args).run yM W = .ok (.enter F args) W) (hit:ItU 3 w F eN Ok Fin) :
  Calls yM 281 #[yG (.func F) #[] eN] w fun e w'=>∃ v xs,e = .returned v∧Fin xs∧w'.ownsRow w.heap.size 35 1 v xs.length (cW xs)∧Kept w w':=by
 have HA:=yN (aQV 4 w F eN Ok Fin (by decide) zK enter hit);go_enter func281,ntmps281;go_wp2_with fail;refine (callsIn_wide.1 HA.o).mono ?_;rintro e w' ⟨v,xs,rfl,hf,hv,hb⟩;have HX:=yN (yd hf (yd hv hb));go_wp2_with fail;all_goals go_ret
 all_goals exact⟨v,xs,rfl,HX.o.1,HX.o.2.1,HX.o.2.2⟩
def aLG (F:Nat→Option Value) (l:List Nat):Prop:=l.Nodup∧∀ i,i∈l↔(F i).isSome=true
def YH (F:Nat→Option Value) (l:List Nat):Prop:=l.Nodup∧∀ i∈l,(F i).isSome=true
theorem a1O (w0:World) (bx pb k m:Nat) (F:Nat→Option Value) (hm:2≤m) (h:MF 35 gu w0 pb k F) (j9:w0.cell? ⟨bx,0,yO⟩=yP (.map (yP pb))) :
  ItU m w0 283 #[yB (yP ⟨bx,0,yO⟩)] (YH F) (aLG F):=by
 intro l J W hk hM hY h0;have hc:=hk.cell j9;obtain⟨w1,hrun,hrg,aS,hz1⟩:=(h.kept hk).range oP underlying248;obtain⟨r,fM⟩:∃ r,r=W.heap.size:=⟨_,rfl⟩;rw [← fM] at hrun hrg;have oI:=hk.size;have kU:=h.lt
 have N4:J (fun i=>decide (i=r)) [] w1:=hM _ _ _ _ _ h0 ⟨aS.os,aS.tape,aS.output,aS.size,fun i hi _=>aS.block i hi,fun i hi=>by
  have e:i=r:=by simpa using hi
  subst e
  exact⟨by omega,.inr (by omega)⟩⟩
 have EN:=yN hrg;have aJ:=yN (yn hk (aS.mono oI));have sS:=yN N4;have HM:=yN hM;have N5:=yN hY;have HR:Hid (w0.heap.size≤r):=yN (by omega);refine callsIn_of_wp func283 rfl trivial ?_ rfl;simp only [ntmps283,List.size_toArray,zh,List.length_nil,Nat.reduceAdd,Nat.reduceSub,Array.replicate_succ,Array.replicate_zero,List.push_toArray,List.append_toArray,List.nil_append,List.cons_append];clear h hrg N4 hM hY h0 aS hz1 fM
 gi_wp2
 clear hrun hc;try go_frame
 gi_loopg [] k (fun kx wr=>∃ (lf:Nat→Bool) (cnt:Nat) (pre:List Nat),Hid (cnt≤kx)∧Hid (RG 35 gu wr pb r k F lf cnt)∧Hid (J (fun i=>decide (i=r)) pre wr)∧Hid (pre.Nodup∧∀ i,i∈pre↔((F i).isSome=true∧lf i=false))∧Hid (Kept w0 wr))
 case atStart=>exact⟨_,k,[],yN (ye _),EN,sS,yN ⟨List.nodup_nil,fun i=>⟨fun h=>by simp at h,fun ⟨h1,h2⟩=>by rw [h1] at h2;cases h2⟩⟩,aJ⟩
 obtain⟨lf,cnt,pre,HC,HG,HJ,HX,k9⟩:=hrel;rcases HG.o.XM (ty:=0) with ⟨h0,hl,hrun⟩ | ⟨i,v,w2,cnt',hl,hf,hrun,hrg2,hlt,hgr,hsz,hen⟩
 ·have HL:=yN hl;clear hl
  gi_wp2
  go_end0;exact⟨⟨_,rfl⟩,k9.o,_,pre,⟨HX.o.1,fun i=>by rw [HX.o.2 i];exact⟨fun h=>h.1,fun h=>⟨h,HL.o i⟩⟩⟩,HJ.o⟩
 have hJ2:J (fun i=>decide (i=r)) pre w2:=HM.o _ _ _ _ _ HJ.o ⟨hgr.os,hgr.tape,hgr.output,hgr.size,fun j hj hx=>hgr.block j hj (fun e=>by
  have e:=Option.some.inj e
  rw [e] at hx;simp at hx),fun j hj=>by
  have e:j=r:=by simpa using hj
  subst e;have:=HG.o.lt
  exact⟨by omega,.inl (by simp)⟩⟩
 have hk2:Kept w0 w2:=Below.grown k9.o hgr k9.o.size (fun g hg=>by cases hg;exact HR.o);have rW:i∉pre:=fun e=>by
  have:=((HX.o.2 i).1 e).2;rw [hl] at this;cases this
 have mY:YH F (pre ++ [i]):=⟨by
  rw [List.nodup_append];refine⟨HX.o.1,by simp,fun a ha b hb=>?_⟩;have e:b=i:=by simpa using hb
  rw [e];exact fun e2=>rW (e2 ▸ ha),fun j hj=>by
  rcases za.1 hj with hj | hj
  ·exact ((HX.o.2 j).1 hj).1
  have e:j=i:=by simpa using hj
  rw [e,hf];rfl⟩
 have a6D:(pre ++ [i]).Nodup∧∀ j,j∈pre ++ [i]↔((F j).isSome=true∧(lf j && !decide (j=i))=false):=⟨mY.1,fun j=>by
  rw [za,HX.o.2 j];by_cases e:j=i
  ·subst e;simp [hf]
  simp [e]⟩
 obtain⟨fn,tmps,assign,body,hy,hR⟩:=N5.o _ _ i _ hJ2 mY hk2;have zW:=yN hR;have mO:=yN hrg2;have HP2:=yN a6D;have aH:=yN hk2;have oJ:=yN hlt;clear hR hJ2 hk2 rW mY a6D hrg2 hgr hsz hl hf hlt
 gi_wp2
 refine⟨fun _=>by omega,zW.o.mono ?_⟩;rintro e w4 ⟨rfl,N7,kB,hb4⟩;have nG:=yN (mO.o.stay (w':=w4) (hb4.block pb kU) (kB r (by simp)));have N8:=yN N7;have aR:=yN (yn aH.o hb4);clear N7 kB hb4 zW hy hrun hen
 gi_wp2
 gi_roundg cnt'
 case measure=>have:=oJ.o;have:=HC.o;omega
 exact⟨_,cnt',pre ++ [i],yN (ye _),nG,N8,HP2,aR⟩
end
end Go.Proofs.YtcldomgdkhenpaaGreat
