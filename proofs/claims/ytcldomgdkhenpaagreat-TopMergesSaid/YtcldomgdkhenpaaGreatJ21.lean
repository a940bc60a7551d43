/- Lemmas. -/
import Derived.Test.YtcldomgdkhenpaaGreatJ12
import Derived.Test.YtcldomgdkhenpaaGreatJ13
set_option linter.unusedVariables false
set_option maxRecDepth 1000000
set_option maxHeartbeats 40000000
open Go.Proofs.Tryz
open Go.Proofs.Tryz renaming prog → yM
open Go.Value renaming string → yA,pointer → yB,slice → yC,bool → yD,int → yE,agg → yF,func → yG
open Go.IntKind renaming i64 → yH,u64 → yJ
open Go.Obj renaming cells → yL
open Option renaming none → yO,some → yP
open Go.Lib renaming hid → yN
open And renaming intro → yd
open Go.IntKind renaming wrap_i64 → zk
open Go.RowKit.Below renaming refl → yk
open List renaming append_nil → zi,mem_cons → yx,pairwise_cons → yz
open Nat renaming le_refl → ye,zero_le → yg
open Go.RowKit
namespace Go.Proofs.YtcldomgdkhenpaaGreat
section
variable {l m pre:List Pr} {p q:Pr} {lvl i c c' k n g off cap:Nat} {hs:Key→Nat} {w w':World} {Q:Nat→Option Nat} {P:Nat→Option Pr}
def fY (hs:Key→Nat) (lvl:Nat) (p:Pr):Nat:=five (hs p.1) lvl
def grp (hs:Key→Nat) (lvl:Nat) (l:List Pr) (i:Nat):List Pr:=l.filter fun p=>decide (fY hs lvl p=i)
def rX (l:List Pr):Prop:=l.Pairwise fun p q=>p.1≠q.1
theorem aRN {f:Pr→Bool} {k:Key} (h:∀ p,p.1=k→f p=true):look (l.filter f) k=look l k:=by
 unfold look;rw [List.find?_filter];congr 2;funext p;by_cases e:p.1=k;·simp [e,h p e]
 simp [e]
theorem V6 (h:rX l):Has l (look l):=by
 refine⟨h,fun k v=>⟨Q2,fun hm=>?_⟩⟩;induction l with
 | nil=>cases hm
 | cons p l ih=>
  have h':=yz.1 h;unfold look;rw [List.find?_cons];rcases yx.1 hm with rfl | hm
  ·simp
  have hne:p.1≠k:=h'.1 _ hm;simp only [hne,decide_false];exact ih h'.2 hm
theorem Has.eq {f g:Mp} (h:Has l f) (h':Has l g):f=g:=by
 funext k;cases e:f k with
 | none=>
  cases e':g k with
  | none=>rfl
  | some v=>have:=(h.2 k v).2 ((h'.2 k v).1 e');rw [e] at this;cases this
 | some v=>exact ((h'.2 k v).2 ((h.2 k v).1 e)).symm
theorem rX.perm (h:rX l) (hp:m.Perm l):rX m:=(hp.symm.pairwise_iff (fun {a b} h e=>h e.symm)).1 h
theorem aVP (h:rX l) (hp:m.Perm l):look m=look l:=by
 have h1:=V6 h;have h2:Has m (look l):=⟨h.perm hp,fun k v=>by rw [h1.2];exact hp.mem_iff.symm⟩;exact (V6 (h.perm hp)).eq h2
theorem aVQ (h:rX (l ++ [p])):look (l ++ [p])=upd (look l) p.1 (yP p.2):=by
 have h1:=V6 h;have h0:look l p.1=yO:=UQ fun q hq=>(List.pairwise_append.1 h).2.2 q hq p (by simp);funext k;rw [VW];unfold b9;by_cases e:k=p.1
 ·subst e;rw [h0,DG];unfold look;simp
 rw [kH _ _ e];have:look [p] k=yO:=by unfold look;simp;exact fun e'=>e e'.symm
 rw [this,Option.or_none]
theorem aIP {g:List Pr} (h1:∀ p∈pre,fY hs lvl p≠i) (h2:∀ p∈g,fY hs lvl p=i) (j:Nat):grp hs lvl (pre++g) j=if j=i then g else grp hs lvl pre j:=by
 unfold grp;rw [List.filter_append];by_cases e:j=i
 ·subst e;rw [if_pos rfl,List.filter_eq_nil_iff.2 (fun p hp=>by simpa using h1 p hp),List.nil_append];exact List.filter_eq_self.2 fun p hp=>by simpa using h2 p hp
 have h3:g.filter (fun p=>decide (fY hs lvl p=j))=[]:=List.filter_eq_nil_iff.2 (fun p hp=>by simp;rw [h2 p hp];exact fun e'=>e e'.symm);rw [if_neg e,h3,zi]
structure TI (hs:Key→Nat) (w:World) (lvl c:Nat) (pre:List Pr) (P:Nat→Option Pr) (Q:Nat→Option Nat):Prop where
 ns:NS w c P Q
 dis:sD P Q
 p:∀ i q,P i=yP q→grp hs lvl pre i=[q]
 k:∀ i b,Q i=yP b→CT hs w (lvl+1) b (look (grp hs lvl pre i))
 n:∀ i,P i=yO→Q i=yO→grp hs lvl pre i=[]
theorem TI.kept {hs:Key→Nat} {w w':World} {lvl c:Nat} {pre:List Pr} {P:Nat→Option Pr} {Q:Nat→Option Nat} (h:TI hs w lvl c pre P Q) (hk:Kept w w'):TI hs w' lvl c pre P Q:=
 ⟨h.ns.kept hk,h.dis,h.p,fun i b hb=>(h.k i b hb).kept hk,h.n⟩
theorem aI6 (h:NS w c (fun _=>yO) (fun _=>yO)):TI hs w lvl c [] (fun _=>yO) (fun _=>yO):=
 ⟨h,fun i p e=>(by cases e),fun i q e=>(by cases e),fun i b e=>(by cases e),fun i _ _=>rfl⟩
theorem aYV (p:Pr):look [p]=aY p:=by rw [aUF,show look []=none_ from rfl,QT]
theorem TI.ct (h:TI hs w lvl c l P Q) (hl:lvl<13):CT hs w lvl c (look l):=by
 have h1:=CT.inner (hs:=hs) (w:=w) lvl c P Q (fun i=>look (grp hs lvl l i)) hl h.ns (fun i p hp=>⟨h.dis i p hp,by rw [h.p i p hp,aYV]⟩) h.k (fun i a b=>by rw [h.n i a b];rfl) (fun i k v hv=>by
  have:=Q2 hv;have:=(List.mem_filter.1 this).2;exact of_decide_eq_true this)
 have e:look l=fun k=>look (grp hs lvl l (five (hs k) lvl)) k:=by
  funext k;exact (aRN (fun p hp=>by simp [fY,hp])).symm
 rw [e];exact h1
theorem TI.pair (h:TI hs w lvl c pre P Q) (hk:Kept w w') (h1:∀ p∈pre,fY hs lvl p≠i) (h2:fY hs lvl q=i) (hn:NS w' c' (put P i (yP q)) (put Q i yO)) :
  TI hs w' lvl c' (pre ++ [q]) (put P i (yP q)) (put Q i yO):=by
 have hg:=aIP (g:=[q]) h1 (fun p hp=>by rw [List.mem_singleton.1 hp];exact h2);refine⟨hn,WO h.dis i _ _ (.inr rfl),fun j p hp=>?_,fun j b hb=>?_,fun j a b=>?_⟩
 ·rw [hg j];by_cases e:j=i;·subst e;rw [vA] at hp;cases hp;rw [if_pos rfl]
  rw [oV _ _ e] at hp;rw [if_neg e];exact h.p j p hp
 ·rw [hg j];by_cases e:j=i;·subst e;rw [vA] at hb;cases hb
  rw [oV _ _ e] at hb;rw [if_neg e];exact (h.k j b hb).kept hk
 rw [hg j];by_cases e:j=i;·subst e;rw [vA] at a;cases a
 rw [oV _ _ e] at a;rw [oV _ _ e] at b;rw [if_neg e];exact h.n j a b
theorem TI.kid {b:Nat} {g:List Pr} (h:TI hs w lvl c pre P Q) (hk:Kept w w') (h1:∀ p∈pre,fY hs lvl p≠i) (h2:∀ p∈g,fY hs lvl p=i) (hb:CT hs w' (lvl+1) b (look g)) (hn:NS w' c' (put P i yO) (put Q i (yP b))) :
  TI hs w' lvl c' (pre++g) (put P i yO) (put Q i (yP b)):=by
 have hg:=aIP h1 h2;refine⟨hn,WO h.dis i _ _ (.inl rfl),fun j p hp=>?_,fun j d hd=>?_,fun j a d=>?_⟩
 ·rw [hg j];by_cases e:j=i;·subst e;rw [vA] at hp;cases hp
  rw [oV _ _ e] at hp;rw [if_neg e];exact h.p j p hp
 ·rw [hg j];by_cases e:j=i;·subst e;rw [vA] at hd;cases hd;rw [if_pos rfl];exact hb
  rw [oV _ _ e] at hd;rw [if_neg e];exact (h.k j d hd).kept hk
 rw [hg j];by_cases e:j=i;·subst e;rw [vA] at d;cases d
 rw [oV _ _ e] at a;rw [oV _ _ e] at d;rw [if_neg e];exact h.n j a d
def Up (hs:Key→Nat) (lvl:Nat) (l:List Pr):Prop:=l.Pairwise fun p q=>fY hs lvl p≤fY hs lvl q
theorem aYW (h:Up hs lvl l) (hp:l[0]?=yP p) (hc:fY hs lvl p=i) (hq:l[k]?=yP q) (hne:fY hs lvl q≠i):∀ x∈l.drop k,i<fY hs lvl x:=by
 have mono:∀ (a b:Nat) (x y:Pr),a≤b→l[a]?=yP x→l[b]?=yP y→fY hs lvl x≤fY hs lvl y:=fun a b x y hab hx hy=>by
  by_cases e:a=b;·subst e;rw [hx] at hy;cases hy;exact ye _
  obtain⟨h1,uI⟩:=List.getElem?_eq_some_iff.1 hx;obtain⟨h2,hy'⟩:=List.getElem?_eq_some_iff.1 hy;have:=List.pairwise_iff_getElem.1 h a b h1 h2 (by omega)
  rwa [uI,hy'] at this
 intro x hx;obtain⟨j,hj⟩:=List.getElem?_of_mem hx;rw [List.getElem?_drop] at hj;have h1:=mono 0 k p q (yg _) hp hq;have h2:=mono k (k+j) q x (by omega) hq hj;omega
theorem aVR {d:Array Pr} (hd:d.size=n) (h:Sort.SortedIn (xU hs lvl) 0 n d):Up hs lvl d.toList:=by
 refine List.pairwise_iff_getElem.2 fun i j hi hj gX=>?_;have hi':i<d.size:=by simpa using hi
 have hj':j<d.size:=by simpa using hj
 have:=h i j (yg _) gX (by omega);rw [getElem!_pos d i hi',getElem!_pos d j hj'] at this;simp [xU] at this;simpa [fY] using this
theorem aHL (hc:∀ j u,(cV hs l)[j]?=yP u→w.cell? ⟨g,off+j,yO⟩=yP u) (hk:0<k) (pK:k≤cap) (hm:cap≤maxLen):Rd w (yC (yP ⟨g,off,yO⟩) k cap) k (cV hs (l.take k)):=by
 refine .inr ⟨g,off,cap,rfl,pK,hm,hk,fun j u hj=>hc j u ?_⟩;rw [← aFH,List.getElem?_take] at hj
 split at hj
 ·exact hj
 cases hj
theorem Q7 (hc:∀ j u,(cV hs l)[j]?=yP u→w.cell? ⟨g,off+j,yO⟩=yP u) (hn:n=l.length) (hk:k≤n) (kQ:n≤cap) (hm:cap≤maxLen):Rd w (yC (yP ⟨g,off+k*3,yO⟩) (n-k) (cap-k)) (n-k) (cV hs (l.drop k)):=by
 by_cases h:n-k=0
 ·refine .inl ⟨_,_,by rw [h],by omega,h,?_⟩;have:l.drop k=[]:=List.drop_eq_nil_of_le (by omega);rw [this];rfl
 refine .inr ⟨g,off+k*3,cap-k,rfl,by omega,by omega,by omega,fun j u hj=>?_⟩;rw [← aFI,List.getElem?_drop] at hj;have:=hc _ _ hj
 rwa [show off+(k*3+j)=off+k*3+j by omega] at this
theorem PX (hn:n=l.length) (hk:k≤n) (kQ:n≤cap) (hc:cap=k):Rd w (yC (yP ⟨g,off,yO⟩) (n-k) 0) (n-k) (cV hs (l.drop k)):=by
 refine .inl ⟨_,_,by rw [show n-k=0 by omega],by unfold maxLen;omega,by omega,?_⟩;have:l.drop k=[]:=List.drop_eq_nil_of_le (by omega);rw [this];rfl
end
section
theorem aI7 (hs:Key→Nat) (lvl fb lb ib i:Nat) (kD:∀ k,hs k<18446744073709551616) (hlv:lvl<13) (x:Pr) (w:World) (c1:w.cell? ⟨fb,0,yO⟩=yP (yG (.func 366) #[] #[yB (yP ⟨lb,0,yO⟩)])) (c2:w.cell? ⟨lb,0,yO⟩=yP (yE yH (lvl:Nat))) (c3:w.cell? ⟨ib,0,yO⟩=yP (yE yH (i:Nat))) :
  Calls yM 372 #[yF #[yA x.1,yA x.2,yE yJ (hs x.1:Nat)],yB (yP ⟨fb,0,yO⟩),yB (yP ⟨ib,0,yO⟩)] w fun e w'=>e = .returned (yD (decide (fY hs lvl x≠i)))∧Kept w w':=by
 obtain⟨aA,hb⟩:=aW w (yL #[yA x.1,yA x.2,yE yJ (hs x.1:Nat)] 397);have a1:=ch 0 hb;have a2:=ch 1 hb;have a3:=ch 2 hb;have d1:=aA.cell c1;have d2:=aA.cell c2;have d3:=aA.cell c3;have HK:=yN aA;go_enter func372,ntmps372;go_wp2_with fail;generalize w.alloc _=w1 at *;generalize w.heap.size=xb at *;have aV:=yN (gB w1);refine jE (fun W:World=>W.cell? ⟨xb,0,yO⟩=yP (yA x.1)∧W.cell? ⟨xb,1,yO⟩=yP (yA x.2)∧W.cell? ⟨xb,2,yO⟩=yP (yE yJ (hs x.1:Nat))∧W.cell? ⟨fb,0,yO⟩=yP (yG (.func 366) #[] #[yB (yP ⟨lb,0,yO⟩)])∧W.cell? ⟨lb,0,yO⟩=yP (yE yH (lvl:Nat))∧W.cell? ⟨ib,0,yO⟩=yP (yE yH (i:Nat))) 6 ⟨a1,a2,a3,d1,d2,d3⟩ fun HS=>?_;generalize w1.drew=w2 at *;refine tH 0 HS ?_;refine tH 1 HS ?_;refine tH 3 HS ?_;go_frame;refine oH 2 fun K hK=>?_;go_simp;refine (KL hs lvl lb kD hlv x w2 HS.o.2.2.2.2.1).mono ?_;rintro e w3 ⟨rfl,hk⟩;have aF:=yN (aD (aD (aD (aD (aD bL)))) hk HS.o);have aL:=yN (aB HK.o (aB aV.o hk));refine hK _ _ aF.o ?_;have HS:=aF;refine oH 4 fun K hK=>?_;go_simp;refine hK _ _ HS.o ?_;refine oH 5 fun K hK=>?_;go_simp;refine hK _ _ HS.o ?_;refine dA ?_;go_wp2_with fail;go_ret;refine⟨?_,aL.o⟩;unfold fY;by_cases e:five (hs x.1) lvl=i;·simp [e]
 simp [e];omega
theorem aTA (hs:Key→Nat) (lvl fb lb ib i:Nat) (kD:∀ k,hs k<18446744073709551616) (hlv:lvl<13) (g off n cap:Nat) (l:List Pr) (w:World) (hn:n=l.length) (j5:n≤1000000) (c1:w.cell? ⟨fb,0,yO⟩=yP (yG (.func 366) #[] #[yB (yP ⟨lb,0,yO⟩)])) (c2:w.cell? ⟨lb,0,yO⟩=yP (yE yH (lvl:Nat))) (c3:w.cell? ⟨ib,0,yO⟩=yP (yE yH (i:Nat))) (hp:∀ j u,(cV hs l)[j]?=yP u→w.cell? ⟨g,off+j,yO⟩=yP u) :
  Calls yM 371 #[yC (yP ⟨g,off,yO⟩) n cap,yG (.func 372) #[] #[yB (yP ⟨fb,0,yO⟩),yB (yP ⟨ib,0,yO⟩)]] w
   (aKR (fun p=>fY hs lvl p≠i) l w):=by
 have hcc:∀ wr,Kept w wr→∀ j q,l[j]?=yP q→wr.cell? ⟨g,off+j*3,yO⟩=yP (yA q.1)∧wr.cell? ⟨g,off+j*3+1,yO⟩=yP (yA q.2)∧wr.cell? ⟨g,off+j*3+2,yO⟩=yP (yE yJ (hs q.1:Nat)):=fun wr hk j q hj=>by
  obtain⟨h1,h2,h3⟩:=GK hs hj;exact⟨hk.cell (hp _ _ h1),hk.cell (hp _ _ h2),hk.cell (hp _ _ h3)⟩
 have HC:=yN hcc;have HN:=yN hn;have H1:=yN (yd c1 (yd c2 c3));clear hcc hp hn c1 c2 c3;go_enter func371,ntmps371;go_wp2
 go_loopg [8] n (fun kx s8 wr=>∃ t:Nat,s8=yE yH t∧t≤n∧n-t≤kx∧Hid (Kept w wr)∧Hid (∀ j p,l[j]?=yP p→j<t→¬ fY hs lvl p≠i))
 case atStart=>exact⟨0,rfl,yg _,by omega,yN (yk _ _),yN (fun j p _ h=>absurd h (Nat.not_lt_zero _))⟩
 obtain⟨t,rfl,dI,hm,HK,HB⟩:=hrel;by_cases hlt:t<n
 ·have cD:(t:Int)<(n:Int):=by omega
  have gR:yH.wrap ((t:Int)+1)=((t+1:Nat):Int):=by rw [zk];omega
  obtain⟨q,hq⟩:∃ q,l[t]?=yP q:=⟨l[t]'(by have:=HN.o;omega),List.getElem?_eq_getElem _⟩;obtain⟨e1,e2,e3⟩:=HC.o wr HK.o t q hq;have HQ:=yN hq;clear hq;by_cases hx:fY hs lvl q≠i
  ·go_wp2_with fail;refine (aI7 hs lvl fb lb ib i kD hlv q _ (HK.o.cell H1.o.1) (HK.o.cell H1.o.2.1) (HK.o.cell H1.o.2.2)).mono ?_;rintro e w' ⟨rfl,hk⟩;rw [decide_eq_true hx];have aH:=yN (HK.o.trans hk);have HX:=yN hx;clear hx hk;go_wp2;go_ret;exact⟨aH.o,.inr ⟨t,q,HQ.o,HX.o,HB.o,rfl⟩⟩
  go_wp2_with fail;refine (aI7 hs lvl fb lb ib i kD hlv q _ (HK.o.cell H1.o.1) (HK.o.cell H1.o.2.1) (HK.o.cell H1.o.2.2)).mono ?_;rintro e w' ⟨rfl,hk⟩;rw [decide_eq_false hx];have aH:=yN (HK.o.trans hk);have HX:=yN hx;clear hx hk;go_wp2;go_roundg (n-(t+1));case measure=>omega
  refine⟨t+1,by go_num,hlt,ye _,aH,yN fun j p hj vT=>?_⟩;by_cases e:j=t;·subst e;rw [HQ.o] at hj;cases hj;exact HX.o
  exact HB.o j p hj (by omega)
 have cD:¬ (t:Int)<(n:Int):=by omega
 go_wp2;go_ret;refine⟨HK.o,.inl ⟨rfl,fun x hx=>?_⟩⟩;obtain⟨j,hj⟩:=List.getElem?_of_mem hx;exact HB.o j x hj (by have:=(List.getElem?_eq_some_iff.1 hj).1;have:=HN.o;omega)
end
end Go.Proofs.YtcldomgdkhenpaaGreat
