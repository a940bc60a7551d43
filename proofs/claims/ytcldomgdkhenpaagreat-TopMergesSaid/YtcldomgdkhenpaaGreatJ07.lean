/- Lemmas. -/
import Derived.Test.YtcldomgdkhenpaaGreatJ02
import Derived.Test.YtcldomgdkhenpaaGreatJ03
import Derived.Test.YtcldomgdkhenpaaGreatJ04
import Derived.Deep.LoopGhost
import Derived.Deep.Draws
import Derived.Laws.AppendOwnNone
set_option linter.unusedVariables false
set_option maxRecDepth 1000000
set_option maxHeartbeats 40000000
open Go.Proofs.Tryz
open Go.Proofs.Tryz renaming prog → yM
open Go.Value renaming string → yA,pointer → yB,slice → yC,bool → yD,int → yE,agg → yF,func → yG
open Go.IntKind renaming i64 → yH,u8 → yK
open Go.Obj renaming cells → yL
open Option renaming none → yO,some → yP
open Go.Lib renaming hid → yN
open And renaming intro → yd
open Array renaming getElem?_eq_some_iff → yo
open ByteArray renaming empty → yj
open Go.Builtin renaming zeroCells → zm
open Go.IntKind renaming wrap_i64 → zk
open Go.RowKit.Below renaming drew → ym,heap_setCell → yl,refl → yk,trans → yn
open List renaming append_nil → zi,getElem_cons_succ → yr,getElem_cons_zero → yq,getElem_toArray → yt,length_append → yy,length_cons → zh,length_drop → zg,length_take → ze,mem_append → za,mem_cons → yx,mem_map → zj,not_mem_nil → zc,setIfInBounds_toArray → yp,set_cons_succ → yv,set_cons_zero → yu
open Nat renaming le_of_eq → yh,le_refl → ye,le_trans → yf,lt_of_lt_of_le → yi,zero_le → yg
open Go.RowKit
namespace Go.Proofs.YtcldomgdkhenpaaGreat
section
def ord (a b:Key):Int:=if lt a b then -1 else if a=b then 0 else 1
theorem X3 (a b:Key):Op.bytesLess (ByteArray.toList a) (ByteArray.toList b)=lt a b:=by unfold lt;rw [ByteArray.toList_eq,ByteArray.toList_eq]
theorem qJ (a b:Key):(ByteArray.toList a == ByteArray.toList b)=decide (a=b):=by
 rw [ByteArray.toList_eq,ByteArray.toList_eq];by_cases h:a=b;·subst h;simp
 rw [decide_eq_false h,beq_eq_false_iff_ne];exact fun e=>h (nR e)
theorem tS (a b:Key):ord a b<0↔lt a b=true:=by
 unfold ord;cases h:lt a b with
 | true=>simp
 | false=>by_cases e:a=b <;> simp [e]
theorem aG5 (a b:Key):ord a b=0↔a=b:=by
 unfold ord;cases h:lt a b with
 | true=>simp [oX h]
 | false=>by_cases e:a=b <;> simp [e]
theorem a0I (a b:Key):(ord a b == 0)=decide (a=b):=by
 by_cases h:a=b;·rw [decide_eq_true h,(aG5 a b).2 h];rfl
 rw [decide_eq_false h,beq_eq_false_iff_ne];exact fun e=>h ((aG5 a b).1 e)
theorem UW (a b:Key) (w:World):Calls yM 190 #[yA a,yA b] w fun e w'=>e = .returned (yE yH (ord a b))∧w=w':=by
 have h1:=X3 a b;have h2:=qJ a b;cases hl:lt a b with
 | true=>
  rw [hl] at h1;go_enter func190,ntmps190;go_wp2;all_goals go_ret
  exact⟨gO (by unfold ord;rw [hl];rfl),rfl⟩
 | false=>
  rw [hl] at h1;by_cases e:a=b
  ·subst e;rw [decide_eq_true rfl] at h2;go_enter func190,ntmps190;go_wp2;all_goals go_ret
   exact⟨gO (by unfold ord;rw [hl,if_neg (by simp),if_pos rfl]),rfl⟩
  rw [decide_eq_false e] at h2;go_enter func190,ntmps190;go_wp2;all_goals go_ret
  exact⟨gO (by unfold ord;rw [hl,if_neg (by simp),if_neg e]),rfl⟩
theorem QD (p:Pr) (k:Key) (w:World):Calls yM 322 #[yF #[yA p.1,yA p.2],yA k] w fun e w'=>e = .returned (yE yH (ord p.1 k))∧Kept w w':=by
 go_enter func322,ntmps322;go_wp2_with (go_at_call 190;refine (UW _ _ _).mono ?_;rintro e w' ⟨rfl,rfl⟩);go_ret;exact⟨rfl,(yk _ w).alloc (ye _) _⟩
theorem aSD (a:Option Addr) (cap:Nat) (k:Key) (w:World) :
  Calls yM 385 #[yC a 0 cap,yA k,yG (.func 322) #[] #[]] w fun e w'=>
   e = .returned (.tuple #[yE yH 0,yD false])∧Kept w w':=by
 go_enter func385,ntmps385;go_wp2
 go_loopg [9,10] 0 (fun kx s9 cK wr=>s9=yE yH 0∧cK=yE yH 0∧Kept w wr)
 case atStart=>exact⟨rfl,rfl,yk _ w⟩
 obtain⟨rfl,rfl,hk⟩:=hrel;go_wp2;go_ret2;exact⟨rfl,hk⟩
theorem aQ7 (g off n cap:Nat) (k:Key) (l:List Pr) (w:World) (hn:n=l.length) (hl:0<n) (hb:n≤1000000) (hr:bR l)
  (hc:∀ j u,(aK l)[j]?=yP u→w.cell? ⟨g,off+j,yO⟩=yP u) :
  Calls yM 385 #[yC (yP ⟨g,off,yO⟩) n cap,yA k,yG (.func 322) #[] #[]] w fun e w'=>
   e = .returned (.tuple #[yE yH (eR l k:Nat),yD (eL l k)])∧Kept w w':=by
 have hc2:∀ wr,Kept w wr→∀ j q,l[j]?=yP q→wr.cell? ⟨g,off+j*2,yO⟩=yP (yA q.1)∧wr.cell? ⟨g,off+j*2+1,yO⟩=yP (yA q.2):=fun wr hk j q hj=>by
  obtain⟨h1,h2⟩:=yS hj;exact⟨hk.cell (hc _ _ h1),by rw [Nat.add_assoc];exact hk.cell (hc _ _ h2)⟩
 have HC:=yN hc2;have HR:=yN hr;have HN:=yN hn;clear hc hc2 hr hn;go_enter func385,ntmps385;go_wp2
 go_loopg [9,10] n (fun kx s9 cK wr=>∃ lo hi:Nat,s9=yE yH lo∧cK=yE yH hi∧lo≤hi∧hi≤n∧hi-lo≤kx∧Hid (Kept w wr)∧
  Hid ((∀ j q,l[j]?=yP q→j<lo→lt q.1 k=true)∧(∀ j q,l[j]?=yP q→hi≤j→lt q.1 k=false)))
 case atStart=>
  exact⟨0,n,rfl,rfl,yg _,ye _,by omega,yN (yk _ w),yN ⟨fun j q _ h=>absurd h (Nat.not_lt_zero _),fun j q h1 h2=>by
   have:=(List.getElem?_eq_some_iff.1 h1).1;have:=HN.o;omega⟩⟩
 obtain⟨lo,hi,rfl,rfl,hlh,dI,hg,HK,HI⟩:=hrel;by_cases hlt:lo<hi
 ·obtain⟨q,hq⟩:∃ q,l[(lo+hi) / 2]?=yP q:=⟨l[(lo+hi) / 2]'(by have:=HN.o;omega),List.getElem?_eq_getElem _⟩;obtain⟨e1,e2⟩:=HC.o _ HK.o _ q hq;have HQ:=yN hq;clear hq;cases hx:lt q.1 k with
  | true=>
   have ho:=(tS q.1 k).2 hx;go_wp2_with fail;refine (QD q k _).mono ?_;rintro e w' ⟨rfl,hk⟩;have M4:=yN (aB HK.o hk);clear hk e1 e2;go_wp2;go_roundg (hi-((lo+hi) / 2+1));case measure=>omega
   refine⟨(lo+hi) / 2+1,hi,by rw [show ((lo:Int)+(hi:Int)) / 2+1=(((lo+hi) / 2+1:Nat):Int) by omega],rfl,by omega,dI,ye _,M4,yN ⟨fun j p hj cD=>?_,HI.o.2⟩⟩;rcases Nat.lt_or_ge j lo with nZ | nZ
   ·exact HI.o.1 j p hj nZ
   by_cases e:j=(lo+hi) / 2;·subst e;rw [HQ.o] at hj;cases hj;exact hx
   obtain⟨lW,rfl⟩:=List.getElem?_eq_some_iff.1 hj;obtain⟨mK,eY⟩:=List.getElem?_eq_some_iff.1 HQ.o;have:=List.pairwise_iff_getElem.1 HR.o j ((lo+hi) / 2) lW mK (by omega);rw [eY] at this;exact lt_trans this hx
  | false=>
   have ho:¬ ord q.1 k<0:=fun h=>by rw [(tS q.1 k).1 h] at hx;cases hx
   go_wp2_with fail;refine (QD q k _).mono ?_;rintro e w' ⟨rfl,hk⟩;have M4:=yN (aB HK.o hk);clear hk e1 e2;go_wp2;go_roundg ((lo+hi) / 2-lo);case measure=>omega
   refine⟨lo,(lo+hi) / 2,rfl,by rw [show ((lo:Int)+(hi:Int)) / 2=(((lo+hi) / 2:Nat):Int) by omega],by omega,by omega,ye _,M4,yN ⟨HI.o.1,fun j p hj hle=>?_⟩⟩;rcases Nat.lt_or_ge j hi with nZ | nZ
   ·by_cases e:j=(lo+hi) / 2;·subst e;rw [HQ.o] at hj;cases hj;exact hx
    obtain⟨lW,rfl⟩:=List.getElem?_eq_some_iff.1 hj;obtain⟨mK,eY⟩:=List.getElem?_eq_some_iff.1 HQ.o;have:=List.pairwise_iff_getElem.1 HR.o ((lo+hi) / 2) j mK lW (by omega);rw [eY] at this;cases h:lt l[j].1 k with
    | false=>rfl
    | true=>rw [lt_trans this h] at hx;cases hx
   exact HI.o.2 j p hj nZ
 have e0:hi=lo:=by omega
 subst e0;have HX:Hid (eR l k=hi):=yN (a2S (by have:=HN.o;omega) HI.o.1 HI.o.2);by_cases j7:hi<n
 ·obtain⟨q,hq⟩:∃ q,l[hi]?=yP q:=⟨l[hi]'(by have:=HN.o;omega),List.getElem?_eq_getElem _⟩;obtain⟨e1,e2⟩:=HC.o _ HK.o _ q hq;have HQ:=yN hq;clear hq;go_wp2_with fail;refine (QD q k _).mono ?_;rintro e w' ⟨rfl,hk⟩;have M4:=yN (aB HK.o hk);clear hk e1 e2;go_wp2;go_ret2;refine⟨?_,M4.o⟩;rw [HX.o,aZ7 (by rw [HX.o];exact HQ.o)];rw [← a0I];rfl
 have HE:Hid (eL l k=false):=yN (aXD (by rw [HX.o];have:=HN.o;omega));go_wp2;go_ret2;refine⟨?_,HK.o⟩;rw [HX.o,HE.o];rfl
theorem aSE (v:Value) (n:Nat) (k:Key) (l:List Pr) (w:World) (h:Rd w v n (aK l)) (hn:n=l.length) (hb:n≤1000000) (hr:bR l) :
  Calls yM 385 #[v,yA k,yG (.func 322) #[] #[]] w fun e w'=>
   e = .returned (.tuple #[yE yH (eR l k:Nat),yD (eL l k)])∧Kept w w':=by
 rcases h with ⟨a,cap,rfl,_,e,_⟩ | ⟨g,off,cap,rfl,_,_,h3,h4⟩
 ·have e':l=[]:=List.eq_nil_of_length_eq_zero (by omega);subst e';refine (aSD a cap k w).mono ?_;rintro e w' ⟨rfl,hk⟩;exact⟨rfl,hk⟩
 exact aQ7 g off n cap k l w hn h3 hb hr h4
end
section
variable {i:Nat}
def SR (B:Nat) (w0:World) (g n cap:Nat) (d:Array Pr) (W:World):Prop:=
 W.ownsRow B 52 2 (yC (yP ⟨g,0,yO⟩) n cap) n (aK d.toList)∧w0.grownBy W (yP g)∧d.size=n
section
variable {B:Nat} {w0 W:World} {g n cap:Nat} {d:Array Pr}
theorem SR.kept {W':World} (h:SR B w0 g n cap d W) (hk:Kept W W'):SR B w0 g n cap d W':=
 ⟨bT h.1 hk,⟨hk.os.trans h.2.1.os,hk.tape.trans h.2.1.tape,hk.output.trans h.2.1.output,yf h.2.1.size hk.size,fun k aS hk2=>(hk.block k (yi aS h.2.1.size)).trans (h.2.1.block k aS hk2)⟩,h.2.2⟩
theorem SR.at_ (h:SR B w0 g n cap d W) (hi:i<n):d.toList[i]?=yP d[i]!:=by
 have:i<d.size:=by rw [h.2.2];exact hi
 rw [List.getElem?_eq_getElem (by simpa using this)];simp [getElem!_pos d i this]
theorem SR.c1 (h:SR B w0 g n cap d W) (hi:i<n):W.cell? ⟨g,i*2,yO⟩=yP (yA d[i]!.1):=gU h.1 (yS (h.at_ hi)).1
theorem SR.c2 (h:SR B w0 g n cap d W) (hi:i<n):W.cell? ⟨g,i*2+1,yO⟩=yP (yA d[i]!.2):=gU h.1 (yS (h.at_ hi)).2
theorem SR.fz (h:SR B w0 g n cap d W) (j:Nat):W.frozen? ⟨g,j,yO⟩=false:=let ⟨_,hh⟩:=dX h.1 rfl;aU hh
theorem SR.set (h:SR B w0 g n cap d W) (hi:i<n) (p:Pr):SR B w0 g n cap (d.setIfInBounds i p) ((W.setCell ⟨g,i*2,yO⟩ (yA p.1)).setCell ⟨g,i*2+1,yO⟩ (yA p.2)):=by
 have h1:=yR h.1 hi (ys:=[yA p.1,yA p.2]) rfl;have hg:=eU g [yA p.1,yA p.2] (i*2) W;refine⟨?_,mS h.2.1 hg,by rw [Array.size_setIfInBounds];exact h.2.2⟩;rw [Array.toList_setIfInBounds,aFV (by rw [Array.length_toList,h.2.2];exact hi)];exact h1
theorem SR.le (h:SR B w0 g n cap d W):B≤g:=(h.1.lt g rfl).1
end
theorem UL (B g n cap a b m:Nat) (d:Array Pr) (fv:Value) (w0 w:World) (h:SR B w0 g n cap d w) (h1:a+m≤b) (h2:b+m≤n) (hn:n≤1000000) :
  Calls yM 443 #[yC (yP ⟨g,0,yO⟩) n cap,yE yH a,yE yH b,yE yH m,fv] w fun e w'=>e = .returned (.tuple #[])∧SR B w0 g n cap (jC d a b m) w':=by
 have H:=yN h;clear h;go_enter func443,ntmps443;go_wp2_with fail
 go_loopg [10] m (fun kx cK wr=>∃ i:Nat,cK=yE yH i∧i≤m∧m-i≤kx∧Hid (SR B w0 g n cap (jC d a b i) wr))
 case atStart=>exact⟨0,rfl,yg _,ye _,H⟩
 clear H;obtain⟨i,rfl,CD,hg,S1⟩:=hrel;by_cases hlt:i<m
 ·have hc1:(a:Int)+(i:Int)=((a+i:Nat):Int):=by omega
  have hc2:(b:Int)+(i:Int)=((b+i:Nat):Int):=by omega
  have cR:yH.wrap ((a:Int)+(i:Int))=((a+i:Nat):Int):=by rw [zk];omega
  have hw2:yH.wrap ((b:Int)+(i:Int))=((b+i:Nat):Int):=by rw [zk];omega
  have EO:((a+i:Nat):Int)<(n:Int):=by omega
  have n9:((b+i:Nat):Int)<(n:Int):=by omega
  obtain⟨u,hu⟩:∃ u,u=a+i:=⟨_,rfl⟩;obtain⟨v,hv⟩:∃ v,v=b+i:=⟨_,rfl⟩;rw [← hu] at hc1 cR EO;rw [← hv] at hc2 hw2 n9;have HUV:=yN (yd hu hv);have sM:u<n∧v<n:=by omega
  clear hu hv;go_wp2_with fail;obtain⟨x,hx⟩:∃ x,x=(jC d a b i)[u]!:=⟨_,rfl⟩;obtain⟨y,hy⟩:∃ y,y=(jC d a b i)[v]!:=⟨_,rfl⟩;have HS:Hid ((fun W:World=>W.cell? ⟨g,(v)*2,yO⟩=yP (yA y.1)∧W.cell? ⟨g,(v)*2+1,yO⟩=yP (yA y.2)∧W.cell? ⟨g,(u)*2,yO⟩=yP (yA x.1)∧W.cell? ⟨g,(u)*2+1,yO⟩=yP (yA x.2)) wr.drew):=yN ⟨by rw [hy];exact S1.o.c1 (by omega),by rw [hy];exact S1.o.c2 (by omega),by rw [hx];exact S1.o.c1 (by omega),by rw [hx];exact S1.o.c2 (by omega)⟩;have cN:Hid (SR B w0 g n cap (jC d a b i) wr.drew):=yN (S1.o.kept (ym (yk _ _)));have bP:=yN (yd hx hy);have ea:(((u:Nat):Int)).toNat=u:=by omega
  have eb:(((v:Nat):Int)).toNat=v:=by omega
  have wa:yH.wrap ((u:Nat):Int)=((u:Nat):Int):=by rw [zk];omega
  have wb:yH.wrap ((v:Nat):Int)=((v:Nat):Int):=by rw [zk];omega
  have pa:(0:Int)≤((u:Nat):Int)∧((u:Nat):Int)<(n:Int):=by omega
  have pb:(0:Int)≤((v:Nat):Int)∧((v:Nat):Int)<(n:Int):=by omega
  clear S1 hx hy;refine JP (fun W:World=>W.cell? ⟨g,(v)*2,yO⟩=yP (yA y.1)∧W.cell? ⟨g,(v)*2+1,yO⟩=yP (yA y.2)∧W.cell? ⟨g,(u)*2,yO⟩=yP (yA x.1)∧W.cell? ⟨g,(u)*2+1,yO⟩=yP (yA x.2)) 21 24 (by kernel_rfl) (by kernel_rfl) ?_;generalize wr.drew=wd at *;refine tM 0 HS ?_;go_frame;refine tM 1 HS ?_;go_frame;refine tM 2 HS ?_;go_frame;refine tM 3 HS ?_;go_frame;refine tM 4 HS ?_;go_frame;refine tM 5 HS ?_;go_frame;refine tM 6 HS ?_;go_frame;refine tM 7 HS ?_;go_frame;refine tM 8 HS ?_;go_frame;refine tM 9 HS ?_;go_frame;refine tM 10 HS ?_;go_frame;refine tM 11 HS ?_;go_frame;refine tM 12 HS ?_;go_frame;refine lM 13 HS ?_;go_frame;refine tM 14 HS ?_;go_frame;refine tM 15 HS ?_;go_frame;refine tM 16 HS ?_;go_frame;refine tM 17 HS ?_;go_frame;refine tM 18 HS ?_;go_frame;refine lM 19 HS ?_;go_frame;refine tM 20 HS ?_;go_frame;have z1:wd.cell? ⟨g,(u)*2,yO⟩=yP (yA x.1):=HS.o.2.2.1;have z2:wd.cell? ⟨g,(u)*2+1,yO⟩=yP (yA x.2):=HS.o.2.2.2;have f1:wd.frozen? ⟨g,(u)*2,yO⟩=false:=cN.o.fz _;have f2:wd.frozen? ⟨g,(u)*2+1,yO⟩=false:=cN.o.fz _;refine oM 21 fun K hK=>?_;go_simp;refine hK _ _ (.inl (by kernel_rfl)) ?_;have S2:Hid (SR B w0 g n cap ((jC d a b i).setIfInBounds (u) y) ((wd.setCell ⟨g,(u)*2,yO⟩ (yA y.1)).setCell ⟨g,(u)*2+1,yO⟩ (yA y.2))):=yN (cN.o.set (by omega) y);clear hK K z1 z2 f1 f2 HS cN;generalize (wd.setCell _ _).setCell _ _=we at *;refine fF 22 (.inl (by kernel_rfl)) (h:=?_);go_frame;have z1:=S2.o.c1 (i:=v) (by omega);have z2:=S2.o.c2 (i:=v) (by omega);have f1:we.frozen? ⟨g,(v)*2,yO⟩=false:=S2.o.fz _;have f2:we.frozen? ⟨g,(v)*2+1,yO⟩=false:=S2.o.fz _;generalize (((jC d a b i).setIfInBounds (u) y)[v]!).1=NG at *;generalize (((jC d a b i).setIfInBounds (u) y)[v]!).2=NH at *;refine oM 23 fun K hK=>?_;go_simp;refine hK _ _ (.inl (by kernel_rfl)) ?_;have S3:Hid (SR B w0 g n cap (Sort.swp (jC d a b i) (u) (v)) ((we.setCell ⟨g,(v)*2,yO⟩ (yA x.1)).setCell ⟨g,(v)*2+1,yO⟩ (yA x.2))):=yN (by have h3:=S2.o.set (i:=v) (by omega) x;unfold Sort.swp;rw [← bP.o.1,← bP.o.2];exact h3);clear hK K z1 z2 f1 f2 S2 bP ea eb wa wb pa pb;generalize (we.setCell _ _).setCell _ _=wf at *;refine uX (by kernel_rfl) ?_ _;go_wp2;go_roundg (m-(i+1));case measure=>omega
  refine⟨i+1,by congr 1,by omega,ye _,yN ?_⟩;rw [jC,← HUV.o.1,← HUV.o.2];exact S3.o
 have:i=m:=by omega
 subst this;go_wp2;go_end0;exact⟨rfl,S1.o⟩
end
section
theorem aSQ (B g n cap a m b:Nat) (d:Array Pr) (fv:Value) (w0 w:World) (h:SR B w0 g n cap d w) (h1:a<m) (h2:m<b) (h3:b≤n) (hn:n≤1000000) :
  Calls yM 438 #[yC (yP ⟨g,0,yO⟩) n cap,yE yH a,yE yH m,yE yH b,fv] w fun e w'=>e = .returned (.tuple #[])∧∃ d',jP d a m b d'∧Sort.PermIn a b d d'∧SR B w0 g n cap d' w':=by
 have H:=yN h;have sN:=h.2.2;have nH:=yN sN;clear h sN;obtain⟨i0,bS⟩:∃ i0:Nat,i0=m-a:=⟨_,rfl⟩;obtain⟨j0,hj0⟩:∃ j0:Nat,j0=b-m:=⟨_,rfl⟩;have ci0:(m:Int)-(a:Int)=(i0:Int):=by omega
 have wi0:yH.wrap ((m:Int)-(a:Int))=(i0:Int):=by rw [zk];omega
 have cj0:(b:Int)-(m:Int)=(j0:Int):=by omega
 have wj0:yH.wrap ((b:Int)-(m:Int))=(j0:Int):=by rw [zk];omega
 have oF:=yN (yd bS hj0);have hb1:0<i0∧0<j0∧i0≤m∧m+j0≤n:=by omega
 clear bS hj0;go_enter func438,ntmps438;go_wp2_with fail
 go_loopg [10,11] (i0+j0) (fun kx cK jN wr=>∃ (i j:Nat) (dk:Array Pr),cK=yE yH i∧jN=yE yH j∧0<i∧0<j∧i≤m∧m+j≤n∧i+j≤kx∧Hid (SR B w0 g n cap dk wr)∧Hid ((∀ d',jP dk (m-i) m (m+j) d'→jP d a m b d')∧Sort.PermIn a b d dk∧a≤m-i∧m+j≤b))
 case atStart=>
  refine⟨i0,j0,d,rfl,rfl,hb1.1,hb1.2.1,hb1.2.2.1,hb1.2.2.2,ye _,H,yN ⟨fun d' hd=>?_,Sort.permIn_refl _ _ _,?_,?_⟩⟩
  ·have e1:=oF.o.1;have e2:=oF.o.2;rw [show m-i0=a by omega,show m+j0=b by omega] at hd;exact hd
  ·have:=oF.o.1;omega
  have:=oF.o.2;omega
 clear H;obtain⟨i,j,dk,rfl,rfl,hi,hj,CD,hmj,hg,S1,HR⟩:=hrel;have qY:=S1.o.2.2;by_cases gX:j<i
 ·have hne:¬ (i:Int)=(j:Int):=by omega
  have hgt:(j:Int)<(i:Int):=by omega
  obtain⟨u,hu⟩:∃ u:Nat,u=m-i:=⟨_,rfl⟩;have cu:(m:Int)-(i:Int)=(u:Int):=by omega
  have wu:yH.wrap ((m:Int)-(i:Int))=(u:Int):=by rw [zk];omega
  have wwu:wrap64 ((m:Int)-(i:Int))=(u:Int):=by unfold wrap64;omega
  have Hu:=yN hu;obtain⟨v,hv⟩:∃ v:Nat,v=i-j:=⟨_,rfl⟩;have cv:(i:Int)-(j:Int)=(v:Int):=by omega
  have wv:yH.wrap ((i:Int)-(j:Int))=(v:Int):=by rw [zk];omega
  have wwv:wrap64 ((i:Int)-(j:Int))=(v:Int):=by unfold wrap64;omega
  have Hv:=yN hv;have sM:u+j≤m∧m+j≤n∧0<v:=by omega
  clear hu hv qY;go_wp2_with fail;refine (UL B g n cap u m j dk _ w0 _ S1.o sM.1 sM.2.1 hn).mono ?_;rintro e w1 ⟨rfl,hs⟩;have S2:=yN hs;clear hs;go_wp2;go_roundg (v+j);case measure=>have:=Hv.o;omega
  have eu:=Hu.o;have ev:=Hv.o;have iO:dk.size=n:=S1.o.2.2;refine⟨v,j,jC dk u m j,rfl,rfl,sM.2.2,hj,by omega,hmj,ye _,S2,yN ⟨fun d' hd=>HR.o.1 d' (jP.more gX CD (by omega) (by rw [eu,ev] at hd;exact hd)),Sort.permIn_trans _ _ _ _ _ HR.o.2.1 (UT _ _ _ _ _ _ (by have:=HR.o.2.2;omega) (by have:=HR.o.2.2;omega) (by have:=HR.o.2.2;omega) (by have:=HR.o.2.2;omega) (by have:=HR.o.2.1.1;have:=nH.o;omega)),by have:=HR.o.2.2;omega,HR.o.2.2.2⟩⟩
 by_cases kT:i<j
 ·have hne:¬ (i:Int)=(j:Int):=by omega
  have hgt:¬ (j:Int)<(i:Int):=by omega
  obtain⟨u,hu⟩:∃ u:Nat,u=m-i:=⟨_,rfl⟩;have cu:(m:Int)-(i:Int)=(u:Int):=by omega
  have wu:yH.wrap ((m:Int)-(i:Int))=(u:Int):=by rw [zk];omega
  have wwu:wrap64 ((m:Int)-(i:Int))=(u:Int):=by unfold wrap64;omega
  have Hu:=yN hu;obtain⟨v,hv⟩:∃ v:Nat,v=j-i:=⟨_,rfl⟩;have cv:(j:Int)-(i:Int)=(v:Int):=by omega
  have wv:yH.wrap ((j:Int)-(i:Int))=(v:Int):=by rw [zk];omega
  have wwv:wrap64 ((j:Int)-(i:Int))=(v:Int):=by unfold wrap64;omega
  have Hv:=yN hv;have hc3:(m:Int)+(j:Int)=((m+j:Nat):Int):=by omega
  have wc3:yH.wrap ((m:Int)+(j:Int))=((m+j:Nat):Int):=by rw [zk];omega
  obtain⟨mj,aKY⟩:∃ mj:Nat,mj=m+j:=⟨_,rfl⟩;rw [← aKY] at hc3 wc3;obtain⟨x,hx⟩:∃ x:Nat,x=m+j-i:=⟨_,rfl⟩;have cx:(mj:Int)-(i:Int)=(x:Int):=by omega
  have wx:yH.wrap ((mj:Int)-(i:Int))=(x:Int):=by rw [zk];omega
  have Hx:=yN (yd hx aKY);have sM:u+i≤x∧x+i≤n∧0<v∧m+v≤n:=by omega
  clear hu hv hx aKY qY;go_wp2_with fail;refine (UL B g n cap u x i dk _ w0 _ S1.o sM.1 sM.2.1 hn).mono ?_;rintro e w1 ⟨rfl,hs⟩;have S2:=yN hs;clear hs;go_wp2;go_roundg (i+v);case measure=>have:=Hv.o;omega
  have eu:=Hu.o;have ev:=Hv.o;have ex:=Hx.o.1;have iO:dk.size=n:=S1.o.2.2;refine⟨i,v,jC dk u x i,rfl,rfl,hi,sM.2.2.1,CD,sM.2.2.2,ye _,S2,yN ⟨fun d' hd=>HR.o.1 d' (jP.less kT CD (by omega) (by rw [eu,ex,ev] at hd;exact hd)),Sort.permIn_trans _ _ _ _ _ HR.o.2.1 (UT _ _ _ _ _ _ (by have:=HR.o.2.2;omega) (by have:=HR.o.2.2;omega) (by have:=HR.o.2.2;omega) (by have:=HR.o.2.2;omega) (by have:=HR.o.2.1.1;have:=nH.o;omega)),HR.o.2.2.1,by have:=HR.o.2.2;omega⟩⟩
 have:i=j:=by omega
 subst this;obtain⟨u,hu⟩:∃ u:Nat,u=m-i:=⟨_,rfl⟩;have cu:(m:Int)-(i:Int)=(u:Int):=by omega
 have wu:yH.wrap ((m:Int)-(i:Int))=(u:Int):=by rw [zk];omega
 have wwu:wrap64 ((m:Int)-(i:Int))=(u:Int):=by unfold wrap64;omega
 have Hu:=yN hu;have sM:u+i≤m∧m+i≤n:=by omega
 clear hu qY;go_wp2_with fail;refine (UL B g n cap u m i dk _ w0 _ S1.o sM.1 sM.2 hn).mono ?_;rintro e w1 ⟨rfl,hs⟩;have S2:=yN hs;clear hs;go_wp2;go_end0;have eu:=Hu.o;have iO:dk.size=n:=S1.o.2.2;refine⟨rfl,jC dk u m i,HR.o.1 _ (by rw [eu];exact jP.last CD (by omega)),Sort.permIn_trans _ _ _ _ _ HR.o.2.1 (UT _ _ _ _ _ _ (by have:=HR.o.2.2;omega) (by have:=HR.o.2.2;omega) (by have:=HR.o.2.2;omega) (by have:=HR.o.2.2;omega) (by have:=HR.o.2.1.1;have:=nH.o;omega)),S2.o⟩
end
section
def dO (p q:Pr):Bool:=lt p.1 q.1
theorem KI:Sort.SWO dO:=⟨fun x=>lt_irrefl _,fun x y z h1 h2=>lt_trans h1 h2,fun x y z h1 h2=>by
 unfold dO at *;cases h:lt x.1 z.1 with
 | false=>rfl
 | true=>
  have:=aQ4 h1 h
  rw [h2] at this;cases this⟩
theorem A3 (p q:Pr) (w:World):Calls yM 321 #[yF #[yA p.1,yA p.2],yF #[yA q.1,yA q.2]] w fun e w'=>e = .returned (yE yH (ord p.1 q.1))∧Kept w w':=by
 go_enter func321,ntmps321;go_wp2_with fail;have hk:Kept w ((w.alloc (yL #[yA p.1,yA p.2] 52)).alloc (yL #[yA q.1,yA q.2] 52)):=aB (aZ _ _) (aZ _ _);refine (QD p q.1 _).mono ?_;rintro e w1 ⟨rfl,aS⟩;have HK:=yN (aB hk aS);go_wp2;go_ret;exact⟨rfl,HK.o⟩
def DT (B:Nat) (w0:World) (g n cap a b:Nat) (d:Array Pr) (e:Ending) (w':World):Prop:=
 e = .returned (.tuple #[])∧∃ d',Sort.PermIn a b d d'∧Sort.SortedIn dO a b d'∧SR B w0 g n cap d' w'
theorem aQA (B g n cap a b:Nat) (d:Array Pr) (w0 w:World) (h:SR B w0 g n cap d w) (h2:a+1<b) (h3:b≤n) (hn:n≤1000000) (hs:Sort.SortedIn dO (a+1) b d) :
  Calls yM 425 #[yC (yP ⟨g,0,yO⟩) n cap,yE yH a,yE yH ((a:Int)+1),yE yH b,yG (.func 321) #[] #[]] w (DT B w0 g n cap a b d):=by
 have H:=yN h;have I0:=yN hs;have sN:=h.2.2;have nH:=yN sN;clear h sN hs;obtain⟨m,hm⟩:∃ m:Nat,m=a+1:=⟨_,rfl⟩;have cm:(a:Int)+1=(m:Int):=by omega
 rw [cm];have c1:(m:Int)-(a:Int)=1:=by omega
 have w1:yH.wrap ((m:Int)-(a:Int))=1:=by rw [zk];omega
 have HM:=yN hm;clear hm;go_enter func425,ntmps425;go_wp2_with fail;clear c1 w1
 go_loopg [10,11] (b-m) (fun kx cK jN wr=>∃ i j:Nat,cK=yE yH i∧jN=yE yH j∧Hid (m≤i∧i≤j∧j≤b∧j-i≤kx)∧Hid (SR B w0 g n cap d wr)∧Hid ((i=m∨dO d[i-1]! d[a]! = true)∧(j=b∨dO d[j]! d[a]! = false)))
 case atStart=>exact⟨m,b,rfl,rfl,yN ⟨ye _,by have:=HM.o;omega,ye _,ye _⟩,H,yN ⟨.inl rfl,.inl rfl⟩⟩
 clear H;obtain⟨i,j,rfl,rfl,oF,S1,HI⟩:=hrel;have a7X:=oF.o;by_cases hlt:i<j
 ·obtain⟨hh,hhe⟩:∃ hh:Nat,hh=(i+j) / 2:=⟨_,rfl⟩;have ch:((i:Int)+(j:Int)) / 2=(hh:Int):=by omega
  have hb:hh<n∧a<n∧i≤hh∧hh<j:=by have:=HM.o;omega
  obtain⟨x,sO⟩:∃ x,x=d[hh]!:=⟨_,rfl⟩;obtain⟨y,vX⟩:∃ y,y=d[a]!:=⟨_,rfl⟩;have bP:=yN (yd sO vX);have HHE:=yN hhe;clear sO vX hhe a7X;cases hx:lt x.1 y.1 with
  | true=>
   go_wp2_with fail;have HS:Hid ((fun W:World=>W.cell? ⟨g,(hh)*2,yO⟩=yP (yA x.1)∧W.cell? ⟨g,(hh)*2+1,yO⟩=yP (yA x.2)∧W.cell? ⟨g,(a)*2,yO⟩=yP (yA y.1)∧W.cell? ⟨g,(a)*2+1,yO⟩=yP (yA y.2)) wr.drew):=yN ⟨by rw [bP.o.1];exact S1.o.c1 (by omega),by rw [bP.o.1];exact S1.o.c2 (by omega),by rw [bP.o.2];exact S1.o.c1 (by omega),by rw [bP.o.2];exact S1.o.c2 (by omega)⟩;have cN:Hid (SR B w0 g n cap (d) wr.drew):=yN (S1.o.kept (ym (yk _ _)));have ho:ord x.1 y.1<0:=(tS x.1 y.1).2 hx;have ea:(((hh:Nat):Int)).toNat=hh:=by omega
   have eb:(((a:Nat):Int)).toNat=a:=by omega
   have wa:yH.wrap ((hh:Nat):Int)=((hh:Nat):Int):=by rw [zk];omega
   have wb:yH.wrap ((a:Nat):Int)=((a:Nat):Int):=by rw [zk];omega
   have pa:(0:Int)≤((hh:Nat):Int)∧((hh:Nat):Int)<(n:Int):=by omega
   have pb:(0:Int)≤((a:Nat):Int)∧((a:Nat):Int)<(n:Int):=by omega
   clear S1;refine IM (fun W:World=>W.cell? ⟨g,(hh)*2,yO⟩=yP (yA x.1)∧W.cell? ⟨g,(hh)*2+1,yO⟩=yP (yA x.2)∧W.cell? ⟨g,(a)*2,yO⟩=yP (yA y.1)∧W.cell? ⟨g,(a)*2+1,yO⟩=yP (yA y.2)) 9 11 ?_;generalize wr.drew=wd at *;refine tM 0 HS ?_;go_frame;refine tM 1 HS ?_;go_frame;refine tM 2 HS ?_;go_frame;refine tM 3 HS ?_;go_frame;refine lM 4 HS ?_;go_frame;refine tM 5 HS ?_;go_frame;refine tM 6 HS ?_;go_frame;refine tM 7 HS ?_;go_frame;refine lM 8 HS ?_;go_frame;refine oM 9 fun K hK=>?_;go_simp;refine (A3 x y _).mono ?_;rintro e wf ⟨rfl,hk⟩;refine hK _ _ (.inl (by kernel_rfl)) ?_;have S1:=yN (cN.o.kept hk);clear hK K HS cN hk ea eb wa wb pa pb;refine oM 10 fun K hK=>?_;go_simp;refine hK _ _ (.inl (by kernel_rfl)) ?_;clear hK K;refine uX (by kernel_rfl) ?_ _;clear ho;go_wp2;go_roundg (j-(hh+1));case measure=>have:=oF.o;omega
   refine⟨hh+1,j,by congr 1,rfl,yN (by have:=oF.o;omega),S1,yN ⟨.inr ?_,HI.o.2⟩⟩;rw [Nat.add_sub_cancel,← bP.o.1,← bP.o.2];exact hx
  | false=>
   go_wp2_with fail;have HS:Hid ((fun W:World=>W.cell? ⟨g,(hh)*2,yO⟩=yP (yA x.1)∧W.cell? ⟨g,(hh)*2+1,yO⟩=yP (yA x.2)∧W.cell? ⟨g,(a)*2,yO⟩=yP (yA y.1)∧W.cell? ⟨g,(a)*2+1,yO⟩=yP (yA y.2)) wr.drew):=yN ⟨by rw [bP.o.1];exact S1.o.c1 (by omega),by rw [bP.o.1];exact S1.o.c2 (by omega),by rw [bP.o.2];exact S1.o.c1 (by omega),by rw [bP.o.2];exact S1.o.c2 (by omega)⟩;have cN:Hid (SR B w0 g n cap (d) wr.drew):=yN (S1.o.kept (ym (yk _ _)));have ho:¬ ord x.1 y.1<0:=fun h=>by rw [(tS x.1 y.1).1 h] at hx;cases hx
   have ea:(((hh:Nat):Int)).toNat=hh:=by omega
   have eb:(((a:Nat):Int)).toNat=a:=by omega
   have wa:yH.wrap ((hh:Nat):Int)=((hh:Nat):Int):=by rw [zk];omega
   have wb:yH.wrap ((a:Nat):Int)=((a:Nat):Int):=by rw [zk];omega
   have pa:(0:Int)≤((hh:Nat):Int)∧((hh:Nat):Int)<(n:Int):=by omega
   have pb:(0:Int)≤((a:Nat):Int)∧((a:Nat):Int)<(n:Int):=by omega
   clear S1;refine IM (fun W:World=>W.cell? ⟨g,(hh)*2,yO⟩=yP (yA x.1)∧W.cell? ⟨g,(hh)*2+1,yO⟩=yP (yA x.2)∧W.cell? ⟨g,(a)*2,yO⟩=yP (yA y.1)∧W.cell? ⟨g,(a)*2+1,yO⟩=yP (yA y.2)) 9 11 ?_;generalize wr.drew=wd at *;refine tM 0 HS ?_;go_frame;refine tM 1 HS ?_;go_frame;refine tM 2 HS ?_;go_frame;refine tM 3 HS ?_;go_frame;refine lM 4 HS ?_;go_frame;refine tM 5 HS ?_;go_frame;refine tM 6 HS ?_;go_frame;refine tM 7 HS ?_;go_frame;refine lM 8 HS ?_;go_frame;refine oM 9 fun K hK=>?_;go_simp;refine (A3 x y _).mono ?_;rintro e wf ⟨rfl,hk⟩;refine hK _ _ (.inl (by kernel_rfl)) ?_;have S1:=yN (cN.o.kept hk);clear hK K HS cN hk ea eb wa wb pa pb;refine oM 10 fun K hK=>?_;go_simp;refine hK _ _ (.inl (by kernel_rfl)) ?_;clear hK K;refine uX (by kernel_rfl) ?_ _;clear ho;go_wp2;go_roundg (hh-i);case measure=>have:=oF.o;omega
   refine⟨i,hh,rfl,rfl,yN (by have:=oF.o;omega),S1,yN ⟨HI.o.1,.inr ?_⟩⟩;rw [← bP.o.1,← bP.o.2];exact hx
 have gX:i=j:=by omega
 subst gX;have gR:m≤i∧i≤b:=by omega
 clear a7X hlt;obtain⟨i1,a7Y⟩:∃ i1:Nat,i1=i-1:=⟨_,rfl⟩;have zR:0<m:=by have:=HM.o;omega
 have ci1:(i:Int)-1=(i1:Int):=by omega
 have wi1:yH.wrap ((i:Int)-1)=(i1:Int):=by rw [zk];omega
 have mA:=yN a7Y;have hai:a≤i1∧i1<n:=by have:=HM.o;omega
 clear a7Y
 have HD:Hid (Sort.SortedIn dO a b (l9 d a (i1-a))):=yN (by
  have:=aUZ KI d a b i (by have:=nH.o;omega) (by have:=HM.o;omega) gR.2 I0.o (by have:=HI.o.1;rw [HM.o] at this;exact this) HI.o.2;rw [mA.o];exact this)
 have HPM:Hid (Sort.PermIn a b d (l9 d a (i1-a))):=yN (aSO _ _ _ _ _ (ye _) (by have:=mA.o;omega) (by have:=nH.o;omega));go_wp2_with fail
 go_loopg [13] (i1-a) (fun kx EP wx=>∃ k:Nat,EP=yE yH k∧Hid (a≤k∧k≤i1∧i1-k≤kx)∧Hid (SR B w0 g n cap (l9 d a (k-a)) wx))
 case atStart=>exact⟨a,rfl,yN ⟨ye _,hai.1,ye _⟩,by rw [Nat.sub_self];exact S1⟩
 clear S1;obtain⟨k,rfl,cJ,S1⟩:=hrel;have hk3:=cJ.o;by_cases hlk:k<i1
 ·have a7Z:(k:Int)<(i1:Int):=by omega
  obtain⟨k1,Y0⟩:∃ k1:Nat,k1=k+1:=⟨_,rfl⟩;have ck1:(k:Int)+1=(k1:Int):=by omega
  have wk1:yH.wrap ((k:Int)+1)=(k1:Int):=by rw [zk];omega
  have aJ:=yN Y0;have sP:k<n∧k1<n∧k≠k1:=by omega
  clear Y0 hk3;go_wp2_with fail;obtain⟨x,hx⟩:∃ x,x=(l9 d a (k-a))[k]!:=⟨_,rfl⟩;obtain⟨y,hy⟩:∃ y,y=(l9 d a (k-a))[k1]!:=⟨_,rfl⟩;have HS:Hid ((fun W:World=>W.cell? ⟨g,(k1)*2,yO⟩=yP (yA y.1)∧W.cell? ⟨g,(k1)*2+1,yO⟩=yP (yA y.2)∧W.cell? ⟨g,(k)*2,yO⟩=yP (yA x.1)∧W.cell? ⟨g,(k)*2+1,yO⟩=yP (yA x.2)) wr.drew):=yN ⟨by rw [hy];exact S1.o.c1 (by omega),by rw [hy];exact S1.o.c2 (by omega),by rw [hx];exact S1.o.c1 (by omega),by rw [hx];exact S1.o.c2 (by omega)⟩;have cN:Hid (SR B w0 g n cap (l9 d a (k-a)) wr.drew):=yN (S1.o.kept (ym (yk _ _)));have bP:=yN (yd hx hy);have ea:(((k:Nat):Int)).toNat=k:=by omega
  have eb:(((k1:Nat):Int)).toNat=k1:=by omega
  have wa:yH.wrap ((k:Nat):Int)=((k:Nat):Int):=by rw [zk];omega
  have wb:yH.wrap ((k1:Nat):Int)=((k1:Nat):Int):=by rw [zk];omega
  have pa:(0:Int)≤((k:Nat):Int)∧((k:Nat):Int)<(n:Int):=by omega
  have pb:(0:Int)≤((k1:Nat):Int)∧((k1:Nat):Int)<(n:Int):=by omega
  clear S1 hx hy;refine IM (fun W:World=>W.cell? ⟨g,(k1)*2,yO⟩=yP (yA y.1)∧W.cell? ⟨g,(k1)*2+1,yO⟩=yP (yA y.2)∧W.cell? ⟨g,(k)*2,yO⟩=yP (yA x.1)∧W.cell? ⟨g,(k)*2+1,yO⟩=yP (yA x.2)) 15 18 ?_;generalize wr.drew=wd at *;refine tM 0 HS ?_;go_frame;refine tM 1 HS ?_;go_frame;refine tM 2 HS ?_;go_frame;refine tM 3 HS ?_;go_frame;refine tM 4 HS ?_;go_frame;refine tM 5 HS ?_;go_frame;refine tM 6 HS ?_;go_frame;refine tM 7 HS ?_;go_frame;refine tM 8 HS ?_;go_frame;refine lM 9 HS ?_;go_frame;refine tM 10 HS ?_;go_frame;refine tM 11 HS ?_;go_frame;refine tM 12 HS ?_;go_frame;refine lM 13 HS ?_;go_frame;refine tM 14 HS ?_;go_frame;have z1:wd.cell? ⟨g,(k)*2,yO⟩=yP (yA x.1):=HS.o.2.2.1;have z2:wd.cell? ⟨g,(k)*2+1,yO⟩=yP (yA x.2):=HS.o.2.2.2;have f1:wd.frozen? ⟨g,(k)*2,yO⟩=false:=cN.o.fz _;have f2:wd.frozen? ⟨g,(k)*2+1,yO⟩=false:=cN.o.fz _;refine oM 15 fun K hK=>?_;go_simp;refine hK _ _ (.inl (by kernel_rfl)) ?_;have S2:Hid (SR B w0 g n cap ((l9 d a (k-a)).setIfInBounds (k) y) ((wd.setCell ⟨g,(k)*2,yO⟩ (yA y.1)).setCell ⟨g,(k)*2+1,yO⟩ (yA y.2))):=yN (cN.o.set (by omega) y);clear hK K z1 z2 f1 f2 HS cN;generalize (wd.setCell _ _).setCell _ _=we at *;refine fF 16 (.inl (by kernel_rfl)) (h:=?_);go_frame;have z1:=S2.o.c1 (i:=k1) (by omega);have z2:=S2.o.c2 (i:=k1) (by omega);have f1:we.frozen? ⟨g,(k1)*2,yO⟩=false:=S2.o.fz _;have f2:we.frozen? ⟨g,(k1)*2+1,yO⟩=false:=S2.o.fz _;generalize (((l9 d a (k-a)).setIfInBounds (k) y)[k1]!).1=NG at *;generalize (((l9 d a (k-a)).setIfInBounds (k) y)[k1]!).2=NH at *;refine oM 17 fun K hK=>?_;go_simp;refine hK _ _ (.inl (by kernel_rfl)) ?_;have S3:Hid (SR B w0 g n cap (Sort.swp (l9 d a (k-a)) (k) (k1)) ((we.setCell ⟨g,(k1)*2,yO⟩ (yA x.1)).setCell ⟨g,(k1)*2+1,yO⟩ (yA x.2))):=yN (by have h3:=S2.o.set (i:=k1) (by omega) x;unfold Sort.swp;rw [← bP.o.1,← bP.o.2];exact h3);clear hK K z1 z2 f1 f2 S2 bP ea eb wa wb pa pb;generalize (we.setCell _ _).setCell _ _=wf at *;refine uX (by kernel_rfl) ?_ _;go_wp2;go_roundg (i1-k1);case measure=>have:=aJ.o;have:=cJ.o;omega
  refine⟨k1,rfl,yN (by have:=aJ.o;have:=cJ.o;omega),yN ?_⟩;have e1:=aJ.o;have e2:=cJ.o;rw [show k1-a=(k-a)+1 by omega,l9,show a+(k-a)=k by omega,← e1];exact S3.o
 have cH:k=i1:=by omega
 subst cH;clear hk3;go_wp2;go_end0;exact⟨rfl,_,HPM.o,HD.o,S1.o⟩
end
section
theorem aPV (B g n cap a m:Nat) (d:Array Pr) (w0 w:World) (h:SR B w0 g n cap d w) (h2:a+1<m) (h3:m<n) (hn:n≤1000000) (hs:Sort.SortedIn dO a m d) :
  Calls yM 425 #[yC (yP ⟨g,0,yO⟩) n cap,yE yH a,yE yH m,yE yH ((m:Int)+1),yG (.func 321) #[] #[]] w (DT B w0 g n cap a (m+1) d):=by
 have H:=yN h;have I0:=yN hs;have sN:=h.2.2;have nH:=yN sN;clear h sN hs;obtain⟨b,hb⟩:∃ b:Nat,b=m+1:=⟨_,rfl⟩;have cb:(m:Int)+1=(b:Int):=by omega
 rw [cb];have c1:¬ (m:Int)-(a:Int)=1:=by omega
 have w1:¬ yH.wrap ((m:Int)-(a:Int))=1:=by rw [zk];omega
 have c2:(b:Int)-(m:Int)=1:=by omega
 have w2:yH.wrap ((b:Int)-(m:Int))=1:=by rw [zk];omega
 have a71:((m:Int)-(a:Int) == 1)=false:=by rw [beq_eq_false_iff_ne];exact c1
 have a73:((b:Int)-(m:Int) == 1)=true:=by rw [beq_iff_eq];exact c2
 have HM:=yN hb;rw [← hb];clear hb;go_enter func425,ntmps425;go_wp2_with fail;clear c1 w1 c2 w2
 go_loopg [14,15] (m-a) (fun kx NI s15 wr=>∃ i j:Nat,NI=yE yH i∧s15=yE yH j∧Hid (a≤i∧i≤j∧j≤m∧j-i≤kx)∧Hid (SR B w0 g n cap d wr)∧Hid ((i=a∨dO d[m]! d[i-1]! = false)∧(j=m∨dO d[m]! d[j]! = true)))
 case atStart=>exact⟨a,m,rfl,rfl,yN ⟨ye _,by omega,ye _,ye _⟩,H,yN ⟨.inl rfl,.inl rfl⟩⟩
 clear H;obtain⟨i,j,rfl,rfl,oF,S1,HI⟩:=hrel;have a7X:=oF.o;by_cases hlt:i<j
 ·obtain⟨hh,hhe⟩:∃ hh:Nat,hh=(i+j) / 2:=⟨_,rfl⟩;have ch:((i:Int)+(j:Int)) / 2=(hh:Int):=by omega
  have hb:hh<n∧i≤hh∧hh<j:=by omega
  obtain⟨x,sO⟩:∃ x,x=d[m]!:=⟨_,rfl⟩;obtain⟨y,vX⟩:∃ y,y=d[hh]!:=⟨_,rfl⟩;have bP:=yN (yd sO vX);clear sO vX hhe a7X;cases hx:lt x.1 y.1 with
  | true=>
   go_wp2_with fail;have HS:Hid ((fun W:World=>W.cell? ⟨g,(m)*2,yO⟩=yP (yA x.1)∧W.cell? ⟨g,(m)*2+1,yO⟩=yP (yA x.2)∧W.cell? ⟨g,(hh)*2,yO⟩=yP (yA y.1)∧W.cell? ⟨g,(hh)*2+1,yO⟩=yP (yA y.2)) wr.drew):=yN ⟨by rw [bP.o.1];exact S1.o.c1 (by omega),by rw [bP.o.1];exact S1.o.c2 (by omega),by rw [bP.o.2];exact S1.o.c1 (by omega),by rw [bP.o.2];exact S1.o.c2 (by omega)⟩;have cN:Hid (SR B w0 g n cap (d) wr.drew):=yN (S1.o.kept (ym (yk _ _)));have ho:ord x.1 y.1<0:=(tS x.1 y.1).2 hx;have ea:(((m:Nat):Int)).toNat=m:=by omega
   have eb:(((hh:Nat):Int)).toNat=hh:=by omega
   have wa:yH.wrap ((m:Nat):Int)=((m:Nat):Int):=by rw [zk];omega
   have wb:yH.wrap ((hh:Nat):Int)=((hh:Nat):Int):=by rw [zk];omega
   have pa:(0:Int)≤((m:Nat):Int)∧((m:Nat):Int)<(n:Int):=by omega
   have pb:(0:Int)≤((hh:Nat):Int)∧((hh:Nat):Int)<(n:Int):=by omega
   clear S1;refine IM (fun W:World=>W.cell? ⟨g,(m)*2,yO⟩=yP (yA x.1)∧W.cell? ⟨g,(m)*2+1,yO⟩=yP (yA x.2)∧W.cell? ⟨g,(hh)*2,yO⟩=yP (yA y.1)∧W.cell? ⟨g,(hh)*2+1,yO⟩=yP (yA y.2)) 9 12 ?_;generalize wr.drew=wd at *;refine tM 0 HS ?_;go_frame;refine tM 1 HS ?_;go_frame;refine tM 2 HS ?_;go_frame;refine tM 3 HS ?_;go_frame;refine lM 4 HS ?_;go_frame;refine tM 5 HS ?_;go_frame;refine tM 6 HS ?_;go_frame;refine tM 7 HS ?_;go_frame;refine lM 8 HS ?_;go_frame;refine oM 9 fun K hK=>?_;go_simp;refine (A3 x y _).mono ?_;rintro e wf ⟨rfl,hk⟩;refine hK _ _ (.inl (by kernel_rfl)) ?_;have S1:=yN (cN.o.kept hk);clear hK K HS cN hk ea eb wa wb pa pb;refine oM 10 fun K hK=>?_;go_simp;refine hK _ _ (.inl (by kernel_rfl)) ?_;clear hK K;refine oM 11 fun K hK=>?_;go_simp;refine hK _ _ (.inl (by kernel_rfl)) ?_;clear hK K;refine uX (by kernel_rfl) ?_ _;clear ho;go_wp2;go_roundg (hh-i);case measure=>have:=oF.o;omega
   refine⟨i,hh,rfl,rfl,yN (by have:=oF.o;omega),S1,yN ⟨HI.o.1,.inr ?_⟩⟩;rw [← bP.o.1,← bP.o.2];exact hx
  | false=>
   go_wp2_with fail;have HS:Hid ((fun W:World=>W.cell? ⟨g,(m)*2,yO⟩=yP (yA x.1)∧W.cell? ⟨g,(m)*2+1,yO⟩=yP (yA x.2)∧W.cell? ⟨g,(hh)*2,yO⟩=yP (yA y.1)∧W.cell? ⟨g,(hh)*2+1,yO⟩=yP (yA y.2)) wr.drew):=yN ⟨by rw [bP.o.1];exact S1.o.c1 (by omega),by rw [bP.o.1];exact S1.o.c2 (by omega),by rw [bP.o.2];exact S1.o.c1 (by omega),by rw [bP.o.2];exact S1.o.c2 (by omega)⟩;have cN:Hid (SR B w0 g n cap (d) wr.drew):=yN (S1.o.kept (ym (yk _ _)));have ho:¬ ord x.1 y.1<0:=fun h=>by rw [(tS x.1 y.1).1 h] at hx;cases hx
   have ea:(((m:Nat):Int)).toNat=m:=by omega
   have eb:(((hh:Nat):Int)).toNat=hh:=by omega
   have wa:yH.wrap ((m:Nat):Int)=((m:Nat):Int):=by rw [zk];omega
   have wb:yH.wrap ((hh:Nat):Int)=((hh:Nat):Int):=by rw [zk];omega
   have pa:(0:Int)≤((m:Nat):Int)∧((m:Nat):Int)<(n:Int):=by omega
   have pb:(0:Int)≤((hh:Nat):Int)∧((hh:Nat):Int)<(n:Int):=by omega
   clear S1;refine IM (fun W:World=>W.cell? ⟨g,(m)*2,yO⟩=yP (yA x.1)∧W.cell? ⟨g,(m)*2+1,yO⟩=yP (yA x.2)∧W.cell? ⟨g,(hh)*2,yO⟩=yP (yA y.1)∧W.cell? ⟨g,(hh)*2+1,yO⟩=yP (yA y.2)) 9 12 ?_;generalize wr.drew=wd at *;refine tM 0 HS ?_;go_frame;refine tM 1 HS ?_;go_frame;refine tM 2 HS ?_;go_frame;refine tM 3 HS ?_;go_frame;refine lM 4 HS ?_;go_frame;refine tM 5 HS ?_;go_frame;refine tM 6 HS ?_;go_frame;refine tM 7 HS ?_;go_frame;refine lM 8 HS ?_;go_frame;refine oM 9 fun K hK=>?_;go_simp;refine (A3 x y _).mono ?_;rintro e wf ⟨rfl,hk⟩;refine hK _ _ (.inl (by kernel_rfl)) ?_;have S1:=yN (cN.o.kept hk);clear hK K HS cN hk ea eb wa wb pa pb;refine oM 10 fun K hK=>?_;go_simp;refine hK _ _ (.inl (by kernel_rfl)) ?_;clear hK K;refine oM 11 fun K hK=>?_;go_simp;refine hK _ _ (.inl (by kernel_rfl)) ?_;clear hK K;refine uX (by kernel_rfl) ?_ _;clear ho;go_wp2;go_roundg (j-(hh+1));case measure=>have:=oF.o;omega
   refine⟨hh+1,j,by congr 1,rfl,yN (by have:=oF.o;omega),S1,yN ⟨.inr ?_,HI.o.2⟩⟩;rw [Nat.add_sub_cancel,← bP.o.1,← bP.o.2];exact hx
 have gX:i=j:=by omega
 subst gX;have gR:a≤i∧i≤m:=by omega
 clear a7X hlt
 have HD:Hid (Sort.SortedIn dO a b (cQ d m (m-i))):=yN (by
  rw [HM.o];exact JO KI d a m i (by have:=nH.o;omega) gR.1 gR.2 I0.o HI.o.1 HI.o.2)
 have HPM:Hid (Sort.PermIn a b d (cQ d m (m-i))):=yN (JN _ _ _ _ _ (by omega) (by omega) (by have:=HM.o;omega) (by have:=nH.o;have:=HM.o;omega));go_wp2_with fail
 go_loopg [17] (m-i) (fun kx NJ wx=>∃ k:Nat,NJ=yE yH k∧Hid (i≤k∧k≤m∧k-i≤kx)∧Hid (SR B w0 g n cap (cQ d m (m-k)) wx))
 case atStart=>exact⟨m,rfl,yN ⟨gR.2,ye _,ye _⟩,by rw [Nat.sub_self];exact S1⟩
 clear S1;obtain⟨k,rfl,cJ,S1⟩:=hrel;have hk3:=cJ.o;by_cases hlk:i<k
 ·have a7Z:(i:Int)<(k:Int):=by omega
  obtain⟨k1,Y0⟩:∃ k1:Nat,k1=k-1:=⟨_,rfl⟩;have ck1:(k:Int)-1=(k1:Int):=by omega
  have wk1:yH.wrap ((k:Int)-1)=(k1:Int):=by rw [zk];omega
  have aJ:=yN Y0;have sP:k<n∧k1<n∧k≠k1:=by omega
  clear Y0 hk3;go_wp2_with fail;obtain⟨x,hx⟩:∃ x,x=(cQ d m (m-k))[k]!:=⟨_,rfl⟩;obtain⟨y,hy⟩:∃ y,y=(cQ d m (m-k))[k1]!:=⟨_,rfl⟩;have HS:Hid ((fun W:World=>W.cell? ⟨g,(k1)*2,yO⟩=yP (yA y.1)∧W.cell? ⟨g,(k1)*2+1,yO⟩=yP (yA y.2)∧W.cell? ⟨g,(k)*2,yO⟩=yP (yA x.1)∧W.cell? ⟨g,(k)*2+1,yO⟩=yP (yA x.2)) wr.drew):=yN ⟨by rw [hy];exact S1.o.c1 (by omega),by rw [hy];exact S1.o.c2 (by omega),by rw [hx];exact S1.o.c1 (by omega),by rw [hx];exact S1.o.c2 (by omega)⟩;have cN:Hid (SR B w0 g n cap (cQ d m (m-k)) wr.drew):=yN (S1.o.kept (ym (yk _ _)));have bP:=yN (yd hx hy);have ea:(((k:Nat):Int)).toNat=k:=by omega
  have eb:(((k1:Nat):Int)).toNat=k1:=by omega
  have wa:yH.wrap ((k:Nat):Int)=((k:Nat):Int):=by rw [zk];omega
  have wb:yH.wrap ((k1:Nat):Int)=((k1:Nat):Int):=by rw [zk];omega
  have pa:(0:Int)≤((k:Nat):Int)∧((k:Nat):Int)<(n:Int):=by omega
  have pb:(0:Int)≤((k1:Nat):Int)∧((k1:Nat):Int)<(n:Int):=by omega
  clear S1 hx hy;refine IM (fun W:World=>W.cell? ⟨g,(k1)*2,yO⟩=yP (yA y.1)∧W.cell? ⟨g,(k1)*2+1,yO⟩=yP (yA y.2)∧W.cell? ⟨g,(k)*2,yO⟩=yP (yA x.1)∧W.cell? ⟨g,(k)*2+1,yO⟩=yP (yA x.2)) 15 18 ?_;generalize wr.drew=wd at *;refine tM 0 HS ?_;go_frame;refine tM 1 HS ?_;go_frame;refine tM 2 HS ?_;go_frame;refine tM 3 HS ?_;go_frame;refine tM 4 HS ?_;go_frame;refine tM 5 HS ?_;go_frame;refine tM 6 HS ?_;go_frame;refine tM 7 HS ?_;go_frame;refine tM 8 HS ?_;go_frame;refine lM 9 HS ?_;go_frame;refine tM 10 HS ?_;go_frame;refine tM 11 HS ?_;go_frame;refine tM 12 HS ?_;go_frame;refine lM 13 HS ?_;go_frame;refine tM 14 HS ?_;go_frame;have z1:wd.cell? ⟨g,(k)*2,yO⟩=yP (yA x.1):=HS.o.2.2.1;have z2:wd.cell? ⟨g,(k)*2+1,yO⟩=yP (yA x.2):=HS.o.2.2.2;have f1:wd.frozen? ⟨g,(k)*2,yO⟩=false:=cN.o.fz _;have f2:wd.frozen? ⟨g,(k)*2+1,yO⟩=false:=cN.o.fz _;refine oM 15 fun K hK=>?_;go_simp;refine hK _ _ (.inl (by kernel_rfl)) ?_;have S2:Hid (SR B w0 g n cap ((cQ d m (m-k)).setIfInBounds (k) y) ((wd.setCell ⟨g,(k)*2,yO⟩ (yA y.1)).setCell ⟨g,(k)*2+1,yO⟩ (yA y.2))):=yN (cN.o.set (by omega) y);clear hK K z1 z2 f1 f2 HS cN;generalize (wd.setCell _ _).setCell _ _=we at *;refine fF 16 (.inl (by kernel_rfl)) (h:=?_);go_frame;have z1:=S2.o.c1 (i:=k1) (by omega);have z2:=S2.o.c2 (i:=k1) (by omega);have f1:we.frozen? ⟨g,(k1)*2,yO⟩=false:=S2.o.fz _;have f2:we.frozen? ⟨g,(k1)*2+1,yO⟩=false:=S2.o.fz _;generalize (((cQ d m (m-k)).setIfInBounds (k) y)[k1]!).1=NG at *;generalize (((cQ d m (m-k)).setIfInBounds (k) y)[k1]!).2=NH at *;refine oM 17 fun K hK=>?_;go_simp;refine hK _ _ (.inl (by kernel_rfl)) ?_;have S3:Hid (SR B w0 g n cap (Sort.swp (cQ d m (m-k)) (k) (k1)) ((we.setCell ⟨g,(k1)*2,yO⟩ (yA x.1)).setCell ⟨g,(k1)*2+1,yO⟩ (yA x.2))):=yN (by have h3:=S2.o.set (i:=k1) (by omega) x;unfold Sort.swp;rw [← bP.o.1,← bP.o.2];exact h3);clear hK K z1 z2 f1 f2 S2 bP ea eb wa wb pa pb;generalize (we.setCell _ _).setCell _ _=wf at *;refine uX (by kernel_rfl) ?_ _;go_wp2;go_roundg (k1-i);case measure=>have:=aJ.o;have:=cJ.o;omega
  refine⟨k1,rfl,yN (by have:=aJ.o;have:=cJ.o;omega),yN ?_⟩;have e1:=aJ.o;have e2:=cJ.o;rw [show m-k1=(m-k)+1 by omega,cQ,show m-(m-k)=k by omega,← e1];exact S3.o
 have cH:k=i:=by omega
 subst cH;clear hk3;go_wp2;go_end0;exact⟨rfl,_,HPM.o,HD.o,S1.o⟩
end
section
theorem P3 {d d':Array Pr} {a m x y:Nat} (h:Sort.PermIn a m d d') (hs:Sort.SortedIn dO x y d) (hx:m≤x):Sort.SortedIn dO x y d':=fun i j h1 h2 h3=>by
 rw [h.2.1 i (by omega),h.2.1 j (by omega)];exact hs i j h1 h2 h3
def Sym (B n cap g N:Nat) (w0:World):Prop:=∀ (a m b:Nat) (d:Array Pr) (w:World),b-a≤N→a<m→m<b→b≤n→SR B w0 g n cap d w→Sort.SortedIn dO a m d→Sort.SortedIn dO m b d→
 Calls yM 425 #[yC (yP ⟨g,0,yO⟩) n cap,yE yH a,yE yH m,yE yH b,yG (.func 321) #[] #[]] w (DT B w0 g n cap a b d)
theorem aQB (B g n cap N:Nat) (w0:World) (hn:n≤1000000) (ih:Sym B n cap g N w0) (a m b:Nat) (d:Array Pr) (w:World) (hN:b-a≤N+1) (h2:a+1<m) (h3:m+1<b) (h4:b≤n)
  (h:SR B w0 g n cap d w) (hs1:Sort.SortedIn dO a m d) (hs2:Sort.SortedIn dO m b d) :
  Calls yM 425 #[yC (yP ⟨g,0,yO⟩) n cap,yE yH a,yE yH m,yE yH b,yG (.func 321) #[] #[]] w (DT B w0 g n cap a b d):=by
 have H:=yN h;have I0:=yN (yd hs1 hs2);have n4:=yN ih;have sN:=h.2.2;have nH:=yN sN;clear h sN hs1 hs2 ih;have c1:¬ (m:Int)-(a:Int)=1:=by omega
 have c2:¬ (b:Int)-(m:Int)=1:=by omega
 have a71:((m:Int)-(a:Int) == 1)=false:=by rw [beq_eq_false_iff_ne];exact c1
 have a73:((b:Int)-(m:Int) == 1)=false:=by rw [beq_eq_false_iff_ne];exact c2
 obtain⟨mid,aKX⟩:∃ mid:Nat,mid=(a+b) / 2:=⟨_,rfl⟩;have bG4:((a:Int)+(b:Int)) / 2=(mid:Int):=by omega
 obtain⟨nn,j7⟩:∃ nn:Nat,nn=mid+m:=⟨_,rfl⟩;have cnn:(mid:Int)+(m:Int)=(nn:Int):=by omega
 have wnn:yH.wrap ((mid:Int)+(m:Int))=(nn:Int):=by rw [zk];omega
 obtain⟨p,hp⟩:∃ p:Nat,p=nn-1:=⟨_,rfl⟩;have cp:(nn:Int)-1=(p:Int):=by omega
 have wp:yH.wrap ((nn:Int)-1)=(p:Int):=by rw [zk];omega
 have hma:a<mid∧mid<b∧a+b<2*mid+2∧2*mid≤a+b:=by omega
 have HP:=yN (yd aKX (yd j7 hp));have sQ:p<nn∧nn≤p+1:=by omega
 have hnm:nn≤mid+m∧mid+m≤nn:=by omega
 clear aKX j7 hp;by_cases hgt:mid<m
 focus
  have a74:(mid:Int)<(m:Int):=by omega
  obtain⟨lo,B8⟩:∃ lo:Nat,lo=nn-b:=⟨_,rfl⟩;have clo:(nn:Int)-(b:Int)=(lo:Int):=by omega
  have wlo:yH.wrap ((nn:Int)-(b:Int))=(lo:Int):=by rw [zk];omega
  obtain⟨hi,hhi⟩:∃ hi:Nat,hi=mid:=⟨_,rfl⟩;have hbd:a≤lo∧lo≤hi∧hi≤m∧hi≤mid∧nn≤lo+b∧m+hi≤nn:=by omega
  have HLH:=yN (show (∀ s,s=lo→s=a∨nn-s=b)∧(∀ s,s=hi→s=m∨nn-s=m) from⟨fun s e=>.inr (by omega),fun s e=>.inr (by omega)⟩);have HLO:=yN (yd B8 hhi);clear B8 hhi
 rotate_left
 focus
  have a74:¬ (mid:Int)<(m:Int):=by omega
  obtain⟨lo,B8⟩:∃ lo:Nat,lo=a:=⟨_,rfl⟩;obtain⟨hi,hhi⟩:∃ hi:Nat,hi=m:=⟨_,rfl⟩;have hbd:a≤lo∧lo≤hi∧hi≤m∧hi≤mid∧nn≤lo+b∧m+hi≤nn:=by omega
  have HLH:=yN (show (∀ s,s=lo→s=a∨nn-s=b)∧(∀ s,s=hi→s=m∨nn-s=m) from⟨fun s e=>.inl (by omega),fun s e=>.inl (by omega)⟩);have HLO:=yN (yd B8 hhi);clear B8 hhi
 all_goals
  go_enter func425,ntmps425;go_wp2_with fail
  go_loopg [20,21] (hi-lo) (fun kx s20 s21 wr=>∃ s r:Nat,s20=yE yH s∧s21=yE yH r∧Hid (lo≤s∧s≤r∧r≤hi∧r-s≤kx)∧Hid (SR B w0 g n cap d wr)∧Hid ((s=lo∨dO d[nn-s]! d[s-1]! = false)∧(r=hi∨dO d[nn-1-r]! d[r]! = true)))
  case atStart=>exact⟨lo,hi,by first | rfl | rw [HLO.o.1],by rw [HLO.o.2],yN ⟨ye _,hbd.2.1,ye _,ye _⟩,H,yN ⟨.inl rfl,.inl rfl⟩⟩
  clear H;obtain⟨s,r,rfl,rfl,CE,S1,HI⟩:=hrel;have ER:=CE.o;by_cases hlt:s<r
  ·obtain⟨cc,hcc⟩:∃ cc:Nat,cc=(s+r) / 2:=⟨_,rfl⟩;have ccc:((s:Int)+(r:Int)) / 2=(cc:Int):=by omega
   obtain⟨pc,CF⟩:∃ pc:Nat,pc=p-cc:=⟨_,rfl⟩;have cpc:(p:Int)-(cc:Int)=(pc:Int):=by omega
   have wpc:yH.wrap ((p:Int)-(cc:Int))=(pc:Int):=by rw [zk];omega
   have sR:cc<n∧pc<n∧s≤cc∧cc<r∧pc+cc=p:=by omega
   obtain⟨x,sO⟩:∃ x,x=d[pc]!:=⟨_,rfl⟩;obtain⟨y,vX⟩:∃ y,y=d[cc]!:=⟨_,rfl⟩;have bP:=yN (yd sO vX);clear sO vX hcc CF ER;cases hx:lt x.1 y.1 with
   | true=>
    go_wp2_with fail;have cN:Hid (SR B w0 g n cap (d) wr.drew):=yN (S1.o.kept (ym (yk _ _)));have ho:ord x.1 y.1<0:=(tS x.1 y.1).2 hx;have ea:(((pc:Nat):Int)).toNat=pc:=by omega
    have eb:(((cc:Nat):Int)).toNat=cc:=by omega
    have wa:yH.wrap ((pc:Nat):Int)=((pc:Nat):Int):=by rw [zk];omega
    have wb:yH.wrap ((cc:Nat):Int)=((cc:Nat):Int):=by rw [zk];omega
    have pa:(0:Int)≤((pc:Nat):Int)∧((pc:Nat):Int)<(n:Int):=by omega
    have pb:(0:Int)≤((cc:Nat):Int)∧((cc:Nat):Int)<(n:Int):=by omega
    refine cP (fun W:World=>W.cell? ⟨g,(pc)*2,yO⟩=yP (yA x.1)∧W.cell? ⟨g,(pc)*2+1,yO⟩=yP (yA x.2)∧W.cell? ⟨g,(cc)*2,yO⟩=yP (yA y.1)∧W.cell? ⟨g,(cc)*2+1,yO⟩=yP (yA y.2)) 11 14 ⟨by rw [bP.o.1];exact S1.o.c1 (by omega),by rw [bP.o.1];exact S1.o.c2 (by omega),by rw [bP.o.2];exact S1.o.c1 (by omega),by rw [bP.o.2];exact S1.o.c2 (by omega)⟩ fun HS=>?_;clear S1;generalize wr.drew=wd at *;refine tM 0 HS ?_;simp only [Act.put,yp,yu,yv,yt,yq];refine tM 1 HS ?_;simp only [Act.put,yp,yu,yv,yt,yr,yq];refine tM 2 HS ?_;simp only [Act.put,yp,yu,yv,yt,yr,yq];refine tM 3 HS ?_;simp only [Act.put,yp,yu,yv,yt,yr,yq];refine tM 4 HS ?_;simp only [Act.put,yp,yu,yv,yt,yr,yq];refine tM 5 HS ?_;simp only [Act.put,yp,yu,yv,yt,yr,yq];refine lM 6 HS ?_;simp only [Act.put,yp,yu,yv,yt,yr,yq];refine tM 7 HS ?_;simp only [Act.put,yp,yu,yv,yt,yr,yq];refine tM 8 HS ?_;simp only [Act.put,yp,yu,yv,yt,yr,yq];refine tM 9 HS ?_;simp only [Act.put,yp,yu,yv,yt,yr,yq];refine lM 10 HS ?_;simp only [Act.put,yp,yu,yv,yt,yr,yq];refine oM 11 fun K hK=>?_;go_simp;refine (A3 x y _).mono ?_;rintro e wf ⟨rfl,hk⟩;refine hK _ _ aX ?_;have S1:=yN (cN.o.kept hk);clear hK K HS cN hk ea eb wa wb pa pb;refine oM 12 fun K hK=>?_;go_simp;refine hK _ _ aX ?_;clear hK K;refine oM 13 fun K hK=>?_;go_simp;refine hK _ _ aX ?_;clear hK K;refine cM ?_;clear ho;go_wp2;go_roundg (cc-s);case measure=>have:=CE.o;omega
    refine⟨s,cc,rfl,rfl,yN (by have:=CE.o;omega),S1,yN ⟨HI.o.1,.inr ?_⟩⟩;rw [show nn-1-cc=pc by omega,← bP.o.1,← bP.o.2];exact hx
   | false=>
    go_wp2_with fail;have cN:Hid (SR B w0 g n cap (d) wr.drew):=yN (S1.o.kept (ym (yk _ _)));have ho:¬ ord x.1 y.1<0:=fun h=>by rw [(tS x.1 y.1).1 h] at hx;cases hx
    have ea:(((pc:Nat):Int)).toNat=pc:=by omega
    have eb:(((cc:Nat):Int)).toNat=cc:=by omega
    have wa:yH.wrap ((pc:Nat):Int)=((pc:Nat):Int):=by rw [zk];omega
    have wb:yH.wrap ((cc:Nat):Int)=((cc:Nat):Int):=by rw [zk];omega
    have pa:(0:Int)≤((pc:Nat):Int)∧((pc:Nat):Int)<(n:Int):=by omega
    have pb:(0:Int)≤((cc:Nat):Int)∧((cc:Nat):Int)<(n:Int):=by omega
    refine cP (fun W:World=>W.cell? ⟨g,(pc)*2,yO⟩=yP (yA x.1)∧W.cell? ⟨g,(pc)*2+1,yO⟩=yP (yA x.2)∧W.cell? ⟨g,(cc)*2,yO⟩=yP (yA y.1)∧W.cell? ⟨g,(cc)*2+1,yO⟩=yP (yA y.2)) 11 14 ⟨by rw [bP.o.1];exact S1.o.c1 (by omega),by rw [bP.o.1];exact S1.o.c2 (by omega),by rw [bP.o.2];exact S1.o.c1 (by omega),by rw [bP.o.2];exact S1.o.c2 (by omega)⟩ fun HS=>?_;clear S1;generalize wr.drew=wd at *;refine tM 0 HS ?_;simp only [Act.put,yp,yu,yv,yt,yq];refine tM 1 HS ?_;simp only [Act.put,yp,yu,yv,yt,yr,yq];refine tM 2 HS ?_;simp only [Act.put,yp,yu,yv,yt,yr,yq];refine tM 3 HS ?_;simp only [Act.put,yp,yu,yv,yt,yr,yq];refine tM 4 HS ?_;simp only [Act.put,yp,yu,yv,yt,yr,yq];refine tM 5 HS ?_;simp only [Act.put,yp,yu,yv,yt,yr,yq];refine lM 6 HS ?_;simp only [Act.put,yp,yu,yv,yt,yr,yq];refine tM 7 HS ?_;simp only [Act.put,yp,yu,yv,yt,yr,yq];refine tM 8 HS ?_;simp only [Act.put,yp,yu,yv,yt,yr,yq];refine tM 9 HS ?_;simp only [Act.put,yp,yu,yv,yt,yr,yq];refine lM 10 HS ?_;simp only [Act.put,yp,yu,yv,yt,yr,yq];refine oM 11 fun K hK=>?_;go_simp;refine (A3 x y _).mono ?_;rintro e wf ⟨rfl,hk⟩;refine hK _ _ aX ?_;have S1:=yN (cN.o.kept hk);clear hK K HS cN hk ea eb wa wb pa pb;refine oM 12 fun K hK=>?_;go_simp;refine hK _ _ aX ?_;clear hK K;refine oM 13 fun K hK=>?_;go_simp;refine hK _ _ aX ?_;clear hK K;refine cM ?_;clear ho;go_wp2;go_roundg (r-(cc+1));case measure=>have:=CE.o;omega
    refine⟨cc+1,r,by congr 1,rfl,yN (by have:=CE.o;omega),S1,yN ⟨.inr ?_,HI.o.2⟩⟩;rw [Nat.add_sub_cancel,show nn-(cc+1)=pc by omega,← bP.o.1,← bP.o.2];exact hx
  have NK:s=r:=by omega
  subst NK;have eI:lo≤s∧s≤hi:=by omega
  obtain⟨e,he⟩:∃ e:Nat,e=nn-s:=⟨_,rfl⟩;have ce:(nn:Int)-(s:Int)=(e:Int):=by omega
  have we:yH.wrap ((nn:Int)-(s:Int))=(e:Int):=by rw [zk];omega
  have hsm:a≤s∧s≤m∧s≤mid∧m≤e∧mid≤e∧e≤b:=by omega
  have hmp:∀ d1,jP d s m e d1→Sort.SortedIn dO a s d1∧Sort.SortedIn dO s mid d1∧Sort.SortedIn dO mid e d1∧Sort.SortedIn dO e b d1∧(∀ x y,a≤x→x<mid→mid≤y→y<b→dO d1[y]! d1[x]! = false):=fun d1 hr=>by
   have e0:(a+b) / 2=mid:=HP.o.1.symm;have e1:(a+b) / 2+m-s=e:=by rw [e0];omega
   have:=aRD KI d d1 a m b s (by omega) (by omega) I0.o.1 I0.o.2 hsm.1 hsm.2.1 (by rw [e0];exact hsm.2.2.1) (by rw [e1];exact hsm.2.2.2.2.2) (by rw [e1];exact hsm.2.2.2.1)
    (by
     rw [e1];rcases HI.o.1 with h | h
     ·rcases HLH.o.1 s h with h' | h'
      ·exact .inl h'
      exact .inr (.inl (by omega))
     rw [← he] at h;exact .inr (.inr h))
    (by
     rw [e1];rcases HI.o.2 with h | h
     ·rcases HLH.o.2 s h with h' | h'
      ·exact .inl h'
      exact .inr (.inl (by omega))
     rw [show nn-1-s=e-1 by omega] at h;exact .inr (.inr h))
    (by rw [e1];exact hr)
   rw [e0,show mid+m-s=e by omega] at this;exact this
  have zX:=yN hmp;clear hmp he hlt ER;rcases (show (s<m∧m<e)∨(s<m∧¬ m<e)∨¬ s<m by omega) with ⟨q1,q2⟩ | ⟨q1,q2⟩ | q1
  focus
   have q1':(s:Int)<(m:Int):=by omega
   have q2':(m:Int)<(e:Int):=by omega
   go_wp2_with fail;refine (aSQ B g n cap s m e d _ w0 _ S1.o q1 q2 (by omega) hn).mono ?_;rintro e0 w1 ⟨rfl,d1,hr1,B4,hs1⟩;have HR:=yN hr1;have HRP:=yN (Sort.permIn_mono _ _ _ _ _ _ hsm.1 hsm.2.2.2.2.2 (by have:=nH.o;omega) B4);have S1:=yN hs1;clear hr1 B4 hs1
  rotate_left
  focus
   have q1':(s:Int)<(m:Int):=by omega
   have q2':¬ (m:Int)<(e:Int):=by omega
   obtain⟨d1,vY⟩:∃ d1,d1=d:=⟨_,rfl⟩;have HR:Hid (jP d s m e d1):=yN (by rw [vY];exact jP.none (.inr (by omega)) (by omega) (by omega));have HRP:Hid (Sort.PermIn a b d d1):=yN (by rw [vY];exact Sort.permIn_refl _ _ _);have NL:=S1;rw [← vY] at NL;clear vY S1;have S1:=NL;clear NL
  rotate_left
  focus
   have q1':¬ (s:Int)<(m:Int):=by omega
   obtain⟨d1,vY⟩:∃ d1,d1=d:=⟨_,rfl⟩;have HR:Hid (jP d s m e d1):=yN (by rw [vY];exact jP.none (.inl (by omega)) (by omega) (by omega));have HRP:Hid (Sort.PermIn a b d d1):=yN (by rw [vY];exact Sort.permIn_refl _ _ _);have NL:=S1;rw [← vY] at NL;clear vY S1;have S1:=NL;clear NL
  all_goals
   rcases (show (a<s∧s<mid)∨(a<s∧¬ s<mid)∨¬ a<s by omega) with ⟨l1,l2⟩ | ⟨l1,l2⟩ | l1
   focus
    have l1':(a:Int)<(s:Int):=by omega
    have l2':(s:Int)<(mid:Int):=by omega
    go_wp2_with fail;refine (n4.o a s mid d1 _ (by omega) l1 l2 (by omega) S1.o (zX.o d1 HR.o).1 (zX.o d1 HR.o).2.1).mono ?_;rintro e0 w2 ⟨rfl,d2,zY,eY,hs2⟩;have H2:=yN (yd zY eY);have S2:=yN hs2;clear zY eY hs2 S1
   rotate_left
   focus
    have l1':(a:Int)<(s:Int):=by omega
    have l2':¬ (s:Int)<(mid:Int):=by omega
    obtain⟨d2,iO⟩:∃ d2,d2=d1:=⟨_,rfl⟩;have H2:Hid (Sort.PermIn a mid d1 d2∧Sort.SortedIn dO a mid d2):=yN ⟨by rw [iO];exact Sort.permIn_refl _ _ _,by rw [iO,show mid=s by omega];exact (zX.o d1 HR.o).1⟩;have S2:=S1;rw [← iO] at S2;clear iO;clear S1
   rotate_left
   focus
    have l1':¬ (a:Int)<(s:Int):=by omega
    obtain⟨d2,iO⟩:∃ d2,d2=d1:=⟨_,rfl⟩;have H2:Hid (Sort.PermIn a mid d1 d2∧Sort.SortedIn dO a mid d2):=yN ⟨by rw [iO];exact Sort.permIn_refl _ _ _,by rw [iO,show a=s by omega];exact (zX.o d1 HR.o).2.1⟩;have S2:=S1;rw [← iO] at S2;clear iO;clear S1
   all_goals
    rcases (show (mid<e∧e<b)∨(mid<e∧¬ e<b)∨¬ mid<e by omega) with ⟨r1,r2⟩ | ⟨r1,r2⟩ | r1
    focus
     have r1':(mid:Int)<(e:Int):=by omega
     have r2':(e:Int)<(b:Int):=by omega
     go_wp2_with fail;refine (n4.o mid e b d2 _ (by omega) r1 r2 h4 S2.o (P3 H2.o.1 (zX.o d1 HR.o).2.2.1 (ye _)) (P3 H2.o.1 (zX.o d1 HR.o).2.2.2.1 (by omega))).mono ?_;rintro e0 w3 ⟨rfl,d3,hp3,NM,hs3⟩;have H3:=yN (yd hp3 NM);have S3:=yN hs3;clear hp3 NM hs3
    rotate_left
    focus
     have r1':(mid:Int)<(e:Int):=by omega
     have r2':¬ (e:Int)<(b:Int):=by omega
     obtain⟨d3,xP⟩:∃ d3,d3=d2:=⟨_,rfl⟩;have H3:Hid (Sort.PermIn mid b d2 d3∧Sort.SortedIn dO mid b d3):=yN ⟨by rw [xP];exact Sort.permIn_refl _ _ _,by rw [xP,show b=e by omega];exact P3 H2.o.1 (zX.o d1 HR.o).2.2.1 (ye _)⟩;have S3:=S2;rw [← xP] at S3;clear xP
    rotate_left
    focus
     have r1':¬ (mid:Int)<(e:Int):=by omega
     obtain⟨d3,xP⟩:∃ d3,d3=d2:=⟨_,rfl⟩;have H3:Hid (Sort.PermIn mid b d2 d3∧Sort.SortedIn dO mid b d3):=yN ⟨by rw [xP];exact Sort.permIn_refl _ _ _,by rw [xP,show mid=e by omega];exact P3 H2.o.1 (zX.o d1 HR.o).2.2.2.1 (by omega)⟩;have S3:=S2;rw [← xP] at S3;clear xP
    all_goals
     go_wp2_with fail;go_end0;have vY:d1.size=n:=by rw [HR.o.1];exact nH.o
     have kL:=aSP d1 d2 d3 a mid b (by omega) (by omega) (by omega) (zX.o d1 HR.o).2.2.2.2 H2.o.1 H2.o.2 H3.o.1 H3.o.2;exact⟨rfl,d3,Sort.permIn_trans _ _ _ _ _ HRP.o kL.1,kL.2,S3.o⟩
end
section
theorem aIH (B n cap g:Nat) (w0:World) (hn:n≤1000000):∀ N,Sym B n cap g N w0
 | 0=>fun a m b d w hN h1 h2 h3 h hs1 hs2=>by omega
 | N+1=>fun a m b d w hN h1 h2 h3 h hs1 hs2=>by
  by_cases hl:m=a+1
  ·subst hl;have:=aQA B g n cap a b d w0 w h h2 h3 hn hs2;exact this
  by_cases hr:b=m+1
  ·subst hr;exact aPV B g n cap a m d w0 w h (by omega) (by omega) hn hs1
  exact aQB B g n cap N w0 hn (aIH B n cap g w0 hn N) a m b d w hN (by omega) (by omega) h3 h hs1 hs2
theorem aED (B g n cap a b:Nat) (d:Array Pr) (w0 w:World) (h:SR B w0 g n cap d w) (h1:a≤b) (h2:b≤n) (hn:n≤1000000) :
  Calls yM 424 #[yC (yP ⟨g,0,yO⟩) n cap,yE yH a,yE yH b,yG (.func 321) #[] #[]] w (DT B w0 g n cap a b d):=by
 have H:=yN h;have sN:=h.2.2;have nH:=yN sN;clear h sN;obtain⟨a1,ha1⟩:∃ a1:Nat,a1=a+1:=⟨_,rfl⟩;have ca1:(a:Int)+1=(a1:Int):=by omega
 have wa1:yH.wrap ((a:Int)+1)=(a1:Int):=by rw [zk];omega
 have HA:=yN ha1;clear ha1;go_enter func424,ntmps424;go_wp2_with fail
 go_loopg [8] (b-a1) (fun kx s8 wr=>∃ (i:Nat) (dk:Array Pr),s8=yE yH i∧Hid (a1≤i∧(i≤b∨i=a1)∧b-i≤kx)∧Hid (SR B w0 g n cap dk wr)∧Hid (Sort.PermIn a b d dk∧Sort.SortedIn dO a i dk))
 case atStart=>exact⟨a1,d,rfl,yN ⟨ye _,.inr rfl,ye _⟩,H,yN ⟨Sort.permIn_refl _ _ _,fun x y h1 h2 h3=>by have:=HA.o;omega⟩⟩
 clear H;obtain⟨i,dk,rfl,HI,S1,HP⟩:=hrel;have zZ:=HI.o;by_cases hlt:i<b
 ·have cD:(i:Int)<(b:Int):=by omega
  have hai:a<i∧i<n:=by have:=HA.o;omega
  have qY:=yN S1.o.2.2;clear zZ;go_wp2_with fail
  go_loopg [9] (i-a) (fun kx s9 wx=>∃ j:Nat,s9=yE yH j∧Hid (a≤j∧j≤i∧j-a≤kx)∧Hid (SR B w0 g n cap (cQ dk i (i-j)) wx)∧Hid (j=i∨dO dk[i]! dk[j]! = true))
  case atStart=>exact⟨i,rfl,yN ⟨by omega,ye _,ye _⟩,by rw [Nat.sub_self];exact S1,yN (.inl rfl)⟩
  clear S1;obtain⟨j,rfl,HJ,S1,HT⟩:=hrel;have qZ:=HJ.o;by_cases hja:a<j
  ·have ZA:(a:Int)<(j:Int):=by omega
   obtain⟨j1,lW⟩:∃ j1:Nat,j1=j-1:=⟨_,rfl⟩;have cj1:(j:Int)-1=(j1:Int):=by omega
   have wj1:yH.wrap ((j:Int)-1)=(j1:Int):=by rw [zk];omega
   have S6:j<n∧j1<n∧j≠j1:=by omega
   have sS:=yN (show j1+1=j by omega);obtain⟨x,sO⟩:∃ x,x=(cQ dk i (i-j))[j]!:=⟨_,rfl⟩;obtain⟨y,vX⟩:∃ y,y=(cQ dk i (i-j))[j1]!:=⟨_,rfl⟩;have hg1:x=dk[i]!:=by
    rw [sO,JW dk i (i-j) (by omega) (by have:=qY.o;omega),if_neg (by omega),if_pos (by omega)]
   have hg2:y=dk[j1]!:=by
    rw [vX,JW dk i (i-j) (by omega) (by have:=qY.o;omega),if_neg (by omega),if_neg (by omega)]
   have bP:=yN (yd sO vX);have HG:=yN (yd hg1 hg2);clear sO vX hg1 hg2 lW qZ;cases hx:lt x.1 y.1 with
   | true=>
    go_wp2_with fail;have cN:Hid (SR B w0 g n cap (cQ dk i (i-j)) wr.drew):=yN (S1.o.kept (ym (yk _ _)));have ho:ord x.1 y.1<0:=(tS x.1 y.1).2 hx;have ea:(((j:Nat):Int)).toNat=j:=by omega
    have eb:(((j1:Nat):Int)).toNat=j1:=by omega
    have wa:yH.wrap ((j:Nat):Int)=((j:Nat):Int):=by rw [zk];omega
    have wb:yH.wrap ((j1:Nat):Int)=((j1:Nat):Int):=by rw [zk];omega
    have pa:(0:Int)≤((j:Nat):Int)∧((j:Nat):Int)<(n:Int):=by omega
    have pb:(0:Int)≤((j1:Nat):Int)∧((j1:Nat):Int)<(n:Int):=by omega
    refine cP (fun W:World=>W.cell? ⟨g,(j)*2,yO⟩=yP (yA x.1)∧W.cell? ⟨g,(j)*2+1,yO⟩=yP (yA x.2)∧W.cell? ⟨g,(j1)*2,yO⟩=yP (yA y.1)∧W.cell? ⟨g,(j1)*2+1,yO⟩=yP (yA y.2)) 14 17 ⟨by rw [bP.o.1];exact S1.o.c1 (by omega),by rw [bP.o.1];exact S1.o.c2 (by omega),by rw [bP.o.2];exact S1.o.c1 (by omega),by rw [bP.o.2];exact S1.o.c2 (by omega)⟩ fun HS=>?_;clear S1;generalize wr.drew=wd at *;refine tM 0 HS ?_;simp only [Act.put,yp,yu,yv,yt,yq];refine tM 1 HS ?_;simp only [Act.put,yp,yu,yv,yt,yr,yq];refine tM 2 HS ?_;simp only [Act.put,yp,yu,yv,yt,yr,yq];refine tM 3 HS ?_;simp only [Act.put,yp,yu,yv,yt,yr,yq];refine tM 4 HS ?_;simp only [Act.put,yp,yu,yv,yt,yr,yq];refine tM 5 HS ?_;simp only [Act.put,yp,yu,yv,yt,yr,yq];refine tM 6 HS ?_;simp only [Act.put,yp,yu,yv,yt,yr,yq];refine tM 7 HS ?_;simp only [Act.put,yp,yu,yv,yt,yr,yq];refine lM 8 HS ?_;simp only [Act.put,yp,yu,yv,yt,yr,yq];refine tM 9 HS ?_;simp only [Act.put,yp,yu,yv,yt,yr,yq];refine tM 10 HS ?_;simp only [Act.put,yp,yu,yv,yt,yr,yq];refine tM 11 HS ?_;simp only [Act.put,yp,yu,yv,yt,yr,yq];refine tM 12 HS ?_;simp only [Act.put,yp,yu,yv,yt,yr,yq];refine lM 13 HS ?_;simp only [Act.put,yp,yu,yv,yt,yr,yq];refine oM 14 fun K hK=>?_;go_simp;refine (A3 x y _).mono ?_;rintro e wf ⟨rfl,hk⟩;refine hK _ _ aX ?_;have S1:=yN (cN.o.kept hk);clear hK K HS cN hk ea eb wa wb pa pb;refine oM 15 fun K hK=>?_;go_simp;refine hK _ _ aX ?_;clear hK K;refine oM 16 fun K hK=>?_;go_simp;refine hK _ _ aX ?_;clear hK K;refine cM ?_;clear ho;go_wp2_with fail;obtain⟨x,hx⟩:∃ x,x=(cQ dk i (i-j))[j]!:=⟨_,rfl⟩;obtain⟨y,hy⟩:∃ y,y=(cQ dk i (i-j))[j1]!:=⟨_,rfl⟩;have cN:Hid (SR B w0 g n cap (cQ dk i (i-j)) wf.drew):=yN (S1.o.kept (ym (yk _ _)));have bP:=yN (yd hx hy);have ea:(((j:Nat):Int)).toNat=j:=by omega
    have eb:(((j1:Nat):Int)).toNat=j1:=by omega
    have wa:yH.wrap ((j:Nat):Int)=((j:Nat):Int):=by rw [zk];omega
    have wb:yH.wrap ((j1:Nat):Int)=((j1:Nat):Int):=by rw [zk];omega
    have pa:(0:Int)≤((j:Nat):Int)∧((j:Nat):Int)<(n:Int):=by omega
    have pb:(0:Int)≤((j1:Nat):Int)∧((j1:Nat):Int)<(n:Int):=by omega
    refine cP (fun W:World=>W.cell? ⟨g,(j1)*2,yO⟩=yP (yA y.1)∧W.cell? ⟨g,(j1)*2+1,yO⟩=yP (yA y.2)∧W.cell? ⟨g,(j)*2,yO⟩=yP (yA x.1)∧W.cell? ⟨g,(j)*2+1,yO⟩=yP (yA x.2)) 15 18 ⟨by rw [hy];exact S1.o.c1 (by omega),by rw [hy];exact S1.o.c2 (by omega),by rw [hx];exact S1.o.c1 (by omega),by rw [hx];exact S1.o.c2 (by omega)⟩ fun HS=>?_;clear S1 hx hy;generalize wf.drew=wd at *;refine tM 0 HS ?_;simp only [Act.put,yp,yu,yv,yt,yq];refine tM 1 HS ?_;simp only [Act.put,yp,yu,yv,yt,yr,yq];refine tM 2 HS ?_;simp only [Act.put,yp,yu,yv,yt,yr,yq];refine tM 3 HS ?_;simp only [Act.put,yp,yu,yv,yt,yr,yq];refine tM 4 HS ?_;simp only [Act.put,yp,yu,yv,yt,yr,yq];refine tM 5 HS ?_;simp only [Act.put,yp,yu,yv,yt,yr,yq];refine tM 6 HS ?_;simp only [Act.put,yp,yu,yv,yt,yr,yq];refine tM 7 HS ?_;simp only [Act.put,yp,yu,yv,yt,yr,yq];refine tM 8 HS ?_;simp only [Act.put,yp,yu,yv,yt,yr,yq];refine lM 9 HS ?_;simp only [Act.put,yp,yu,yv,yt,yr,yq];refine tM 10 HS ?_;simp only [Act.put,yp,yu,yv,yt,yr,yq];refine tM 11 HS ?_;simp only [Act.put,yp,yu,yv,yt,yr,yq];refine tM 12 HS ?_;simp only [Act.put,yp,yu,yv,yt,yr,yq];refine lM 13 HS ?_;simp only [Act.put,yp,yu,yv,yt,yr,yq];refine tM 14 HS ?_;simp only [Act.put,yp,yu,yv,yt,yr,yq];have z1:wd.cell? ⟨g,(j)*2,yO⟩=yP (yA x.1):=HS.o.2.2.1;have z2:wd.cell? ⟨g,(j)*2+1,yO⟩=yP (yA x.2):=HS.o.2.2.2;have f1:wd.frozen? ⟨g,(j)*2,yO⟩=false:=cN.o.fz _;have f2:wd.frozen? ⟨g,(j)*2+1,yO⟩=false:=cN.o.fz _;refine oM 15 fun K hK=>?_;go_simp;refine hK _ _ aX ?_;have S2:Hid (SR B w0 g n cap ((cQ dk i (i-j)).setIfInBounds (j) y) ((wd.setCell ⟨g,(j)*2,yO⟩ (yA y.1)).setCell ⟨g,(j)*2+1,yO⟩ (yA y.2))):=yN (cN.o.set (by omega) y);clear hK K z1 z2 f1 f2 HS cN;generalize (wd.setCell _ _).setCell _ _=we at *;refine fF 16 aX (h:=?_);simp only [Act.put,yp,yu,yv,yt,yr,yq];have z1:=S2.o.c1 (i:=j1) (by omega);have z2:=S2.o.c2 (i:=j1) (by omega);have f1:we.frozen? ⟨g,(j1)*2,yO⟩=false:=S2.o.fz _;have f2:we.frozen? ⟨g,(j1)*2+1,yO⟩=false:=S2.o.fz _;generalize (((cQ dk i (i-j)).setIfInBounds (j) y)[j1]!).1=NG at *;generalize (((cQ dk i (i-j)).setIfInBounds (j) y)[j1]!).2=NH at *;refine oM 17 fun K hK=>?_;go_simp;refine hK _ _ aX ?_;have S3:Hid (SR B w0 g n cap (Sort.swp (cQ dk i (i-j)) (j) (j1)) ((we.setCell ⟨g,(j1)*2,yO⟩ (yA x.1)).setCell ⟨g,(j1)*2+1,yO⟩ (yA x.2))):=yN (by have h3:=S2.o.set (i:=j1) (by omega) x;unfold Sort.swp;rw [← bP.o.1,← bP.o.2];exact h3);clear hK K z1 z2 f1 f2 S2 bP ea eb wa wb pa pb;generalize (we.setCell _ _).setCell _ _=wz at *;refine cM ?_;go_wp2;go_roundg (j1-a);case measure=>have:=HJ.o;have:=sS.o;omega
    have e1:=sS.o;have e2:=HJ.o;refine⟨j1,rfl,yN (by omega),yN ?_,yN (.inr (by rw [← HG.o.1,← HG.o.2];exact hx))⟩;rw [show i-j1=(i-j)+1 by omega,cQ,show i-(i-j)=j by omega,show j-1=j1 by omega];exact S3.o
   | false=>
    go_wp2_with fail;have cN:Hid (SR B w0 g n cap (cQ dk i (i-j)) wr.drew):=yN (S1.o.kept (ym (yk _ _)));have ho:¬ ord x.1 y.1<0:=fun h=>by rw [(tS x.1 y.1).1 h] at hx;cases hx
    have ea:(((j:Nat):Int)).toNat=j:=by omega
    have eb:(((j1:Nat):Int)).toNat=j1:=by omega
    have wa:yH.wrap ((j:Nat):Int)=((j:Nat):Int):=by rw [zk];omega
    have wb:yH.wrap ((j1:Nat):Int)=((j1:Nat):Int):=by rw [zk];omega
    have pa:(0:Int)≤((j:Nat):Int)∧((j:Nat):Int)<(n:Int):=by omega
    have pb:(0:Int)≤((j1:Nat):Int)∧((j1:Nat):Int)<(n:Int):=by omega
    refine cP (fun W:World=>W.cell? ⟨g,(j)*2,yO⟩=yP (yA x.1)∧W.cell? ⟨g,(j)*2+1,yO⟩=yP (yA x.2)∧W.cell? ⟨g,(j1)*2,yO⟩=yP (yA y.1)∧W.cell? ⟨g,(j1)*2+1,yO⟩=yP (yA y.2)) 14 17 ⟨by rw [bP.o.1];exact S1.o.c1 (by omega),by rw [bP.o.1];exact S1.o.c2 (by omega),by rw [bP.o.2];exact S1.o.c1 (by omega),by rw [bP.o.2];exact S1.o.c2 (by omega)⟩ fun HS=>?_;clear S1;generalize wr.drew=wd at *;refine tM 0 HS ?_;simp only [Act.put,yp,yu,yv,yt,yq];refine tM 1 HS ?_;simp only [Act.put,yp,yu,yv,yt,yr,yq];refine tM 2 HS ?_;simp only [Act.put,yp,yu,yv,yt,yr,yq];refine tM 3 HS ?_;simp only [Act.put,yp,yu,yv,yt,yr,yq];refine tM 4 HS ?_;simp only [Act.put,yp,yu,yv,yt,yr,yq];refine tM 5 HS ?_;simp only [Act.put,yp,yu,yv,yt,yr,yq];refine tM 6 HS ?_;simp only [Act.put,yp,yu,yv,yt,yr,yq];refine tM 7 HS ?_;simp only [Act.put,yp,yu,yv,yt,yr,yq];refine lM 8 HS ?_;simp only [Act.put,yp,yu,yv,yt,yr,yq];refine tM 9 HS ?_;simp only [Act.put,yp,yu,yv,yt,yr,yq];refine tM 10 HS ?_;simp only [Act.put,yp,yu,yv,yt,yr,yq];refine tM 11 HS ?_;simp only [Act.put,yp,yu,yv,yt,yr,yq];refine tM 12 HS ?_;simp only [Act.put,yp,yu,yv,yt,yr,yq];refine lM 13 HS ?_;simp only [Act.put,yp,yu,yv,yt,yr,yq];refine oM 14 fun K hK=>?_;go_simp;refine (A3 x y _).mono ?_;rintro e wf ⟨rfl,hk⟩;refine hK _ _ aX ?_;have S1:=yN (cN.o.kept hk);clear hK K HS cN hk ea eb wa wb pa pb;refine oM 15 fun K hK=>?_;go_simp;refine hK _ _ aX ?_;clear hK K;refine oM 16 fun K hK=>?_;go_simp;refine hK _ _ aX ?_;clear hK K;refine cM ?_;clear ho;go_wp2;go_roundg (b-(i+1));case measure=>have:=HI.o;omega
    have e1:=sS.o;have e2:=HJ.o;have e3:=HI.o;have hS:=JO KI dk a i j (by have:=qY.o;omega) e2.1 e2.2.1 HP.o.2 (.inr (by rw [← HG.o.1,show j-1=j1 by omega,← HG.o.2];exact hx)) HT.o;exact⟨i+1,_,by congr 1,yN (by omega),S1,yN ⟨Sort.permIn_trans _ _ _ _ _ HP.o.1 (JN _ _ _ _ _ (by omega) (by omega) (by omega) (by have:=qY.o;omega)),hS⟩⟩
  have ZA:¬ (a:Int)<(j:Int):=by omega
  have ZB:j=a:=by omega
  have HJA:=yN ZB;clear qZ ZB;go_wp2_with fail;go_region;go_wp2;go_roundg (b-(i+1));case measure=>have:=HI.o;omega
  have e2:=HJ.o;have e3:=HI.o;have hS:=JO KI dk a i j (by have:=qY.o;omega) e2.1 e2.2.1 HP.o.2 (.inl HJA.o) HT.o;exact⟨i+1,_,by congr 1,yN (by omega),yN (S1.o.kept (ym (yk _ _))),yN ⟨Sort.permIn_trans _ _ _ _ _ HP.o.1 (JN _ _ _ _ _ (by omega) (by omega) (by omega) (by have:=qY.o;omega)),hS⟩⟩
 have cD:¬ (i:Int)<(b:Int):=by omega
 clear zZ;go_wp2;go_end0;exact⟨rfl,dk,HP.o.1,fun x y h1 h2 h3=>HP.o.2 x y h1 h2 (by omega),S1.o⟩
end
section
theorem aQN {d d':Array Pr} {a m b:Nat} (h:Sort.PermIn m b d d') (hs:Sort.SortedIn dO a m d):Sort.SortedIn dO a m d':=fun i j h1 h2 h3=>by
 rw [h.2.1 i (by omega),h.2.1 j (by omega)];exact hs i j h1 h2 h3
theorem aSR (B g n cap:Nat) (d:Array Pr) (w0 w:World) (h:SR B w0 g n cap d w) (hn:n<40) :
  Calls yM 388 #[yC (yP ⟨g,0,yO⟩) n cap,yE yH n,yG (.func 321) #[] #[]] w (DT B w0 g n cap 0 n d):=by
 have H:=yN h;have sN:=h.2.2;have nH:=yN sN;clear h sN;go_enter func388,ntmps388;go_wp2_with fail
 go_loopg [7,8] (40-0) (fun kx s7 s8 wr=>∃ (A C:Nat) (dk:Array Pr),s7=yE yH A∧s8=yE yH C∧Hid ((A=0∧C=20∨A=20∧C=40∧20≤n)∧40-A≤kx)∧Hid (SR B w0 g n cap dk wr)∧Hid (Sort.PermIn 0 n d dk∧Sort.SortedIn dO 0 A dk))
 case atStart=>exact⟨0,20,d,rfl,rfl,yN ⟨.inl ⟨rfl,rfl⟩,ye _⟩,H,yN ⟨Sort.permIn_refl _ _ _,fun x y h1 h2 h3=>by omega⟩⟩
 clear H;obtain⟨A,C,dk,rfl,rfl,vZ,S1,HP⟩:=hrel;have hac:=vZ.o.1;have hcA:A≤n:=by omega
 by_cases hlt:C≤n
 ·have cD:(C:Int)≤(n:Int):=by omega
  have hA:A=0∧C=20:=by omega
  obtain⟨rfl,rfl⟩:=hA;clear hac hcA;go_wp2_with fail;refine (aED B g n cap 0 20 dk w0 _ S1.o (by decide) hlt (by omega)).mono ?_;rintro e w1 ⟨rfl,d2,zY,eY,hs2⟩;have H2:=yN (yd zY eY);have S2:=yN hs2;clear zY eY hs2;go_wp2;go_roundg 20;case measure=>have:=vZ.o;omega
  exact⟨20,40,d2,rfl,rfl,yN ⟨.inr ⟨rfl,rfl,hlt⟩,by decide⟩,S2,yN ⟨Sort.permIn_trans _ _ _ _ _ HP.o.1 (Sort.permIn_mono _ _ _ _ _ _ (ye _) hlt (by have:=HP.o.1.1;have:=nH.o;omega) H2.o.1),H2.o.2⟩⟩
 have cD:¬ (C:Int)≤(n:Int):=by omega
 have aKZ:=yN (yd hac hlt);clear hac;go_wp2_with fail;refine (aED B g n cap A n dk w0 _ S1.o hcA (ye _) (by omega)).mono ?_;rintro e w1 ⟨rfl,d2,zY,eY,hs2⟩;have bG5:dk.size=n:=by have:=HP.o.1.1;have:=nH.o;omega
 have H2:=yN (show Sort.PermIn 0 n d d2∧Sort.SortedIn dO 0 A d2∧Sort.SortedIn dO A n d2 from⟨Sort.permIn_trans _ _ _ _ _ HP.o.1 (Sort.permIn_mono _ _ _ _ _ _ (yg _) (ye _) (by omega) zY),aQN zY HP.o.2,eY⟩);have S2:=yN hs2;clear zY eY hs2 hlt cD bG5 S1 HP;go_wp2_with fail
 go_loopg [6] 40 (fun kx s6 wx=>∃ (bs:Nat) (dk:Array Pr),s6=yE yH bs∧Hid ((bs=20∨bs=40)∧40-bs≤kx)∧Hid (SR B w0 g n cap dk wx)∧Hid (Sort.PermIn 0 n d dk)∧Hid (bs=20→Sort.SortedIn dO 0 A dk∧Sort.SortedIn dO A n dk)∧Hid (bs=40→Sort.SortedIn dO 0 n dk))
 case atStart=>exact⟨20,d2,rfl,yN ⟨.inl rfl,by decide⟩,S2,yN H2.o.1,yN (fun _=>H2.o.2),yN (fun e=>by omega)⟩
 clear S2 H2;obtain⟨bs,dk,rfl,HB,S1,HP,H20,H40⟩:=hrel;by_cases sR:bs<n
 ·have oD:bs=20:=by have:=HB.o.1;omega
  subst oD;have hA:A=20:=by have:=aKZ.o;omega
  subst hA;have a8A:(20:Int)<(n:Int):=by omega
  have aK0:¬ (40:Int)≤(n:Int):=by omega
  have hS:=H20.o rfl;have lU:=yN hS;clear hS H20 H40 hcA;go_wp2_with fail
  go_loopg [7,8] 0 (fun kx s7 s8 wy=>s7=yE yH 0∧s8=yE yH 40∧Hid (SR B w0 g n cap dk wy))
  case atStart=>exact⟨rfl,rfl,S1⟩
  clear S1;obtain⟨rfl,rfl,S1⟩:=hrel;go_wp2_with fail;refine (aIH B n cap g w0 (by omega) n 0 20 n dk _ (by omega) (by decide) sR (ye _) S1.o lU.o.1 lU.o.2).mono ?_;rintro e w2 ⟨rfl,d3,hp3,NM,hs3⟩;have H3:=yN (yd hp3 NM);have S3:=yN hs3;clear hp3 NM hs3;go_wp2;go_roundg 0;case measure=>have:=HB.o.2;omega
  exact⟨40,d3,rfl,yN ⟨.inr rfl,by decide⟩,S3,yN (Sort.permIn_trans _ _ _ _ _ HP.o H3.o.1),yN (fun e=>by omega),yN (fun _=>H3.o.2)⟩
 have a8A:¬ (bs:Int)<(n:Int):=by omega
 have hso:Hid (Sort.SortedIn dO 0 n dk):=yN (by
  rcases HB.o.1 with rfl | rfl
  ·have h:=H20.o rfl;rcases aKZ.o.1 with ⟨h0,_⟩ | ⟨h0,_,h1⟩
   ·rw [h0] at h;exact h.2
   rw [h0] at h;rw [show n=20 by omega];exact h.1
  exact H40.o rfl)
 go_wp2;go_end0;exact⟨rfl,dk,HP.o,hso.o,S1.o⟩
theorem aPW (B g n cap:Nat) (d:Array Pr) (w0 w:World) (h:SR B w0 g n cap d w) (hn:n<40) :
  Calls yM 320 #[yC (yP ⟨g,0,yO⟩) n cap,yG (.func 321) #[] #[]] w (DT B w0 g n cap 0 n d):=by
 have H:=yN h;go_enter func320,ntmps320;go_wp2_with fail;refine (aSR B g n cap d w0 _ H.o hn).mono ?_;rintro e w1 ⟨rfl,hh⟩;have HH:=yN hh;go_wp2;go_end0;exact⟨rfl,HH.o⟩
end
section
variable {i n m:Nat} {l:List Pr} {q:Pr}
def rS (d:Array Pr) (i:Nat):Bool:=!(decide (i+1<d.size) && decide (d[i+1]!.1=d[i]!.1))
def lJ (d:Array Pr) (i:Nat):List Pr:=((List.range i).filter (rS d)).map fun j=>d[j]!
theorem U5 (d:Array Pr) (i:Nat):lJ d (i+1)=lJ d i++(if rS d i then [d[i]!] else []):=by
 unfold lJ;rw [List.range_succ,List.filter_append,List.map_append];congr 1;by_cases h:rS d i=true;·simp [h]
 simp [h]
theorem aU0 {d:Array Pr} {p:Pr} (h:p∈lJ d i):∃ j,j<i∧rS d j=true∧p=d[j]!:=by
 unfold lJ at h;obtain⟨j,hj,rfl⟩:=zj.1 h;have:=List.mem_filter.1 hj;exact⟨j,List.mem_range.1 this.1,this.2,rfl⟩
theorem aSS {d:Array Pr} (hs:Sort.SortedIn dO 0 d.size d):bR (lJ d d.size):=by
 unfold bR lJ;rw [List.pairwise_map];have hp:((List.range d.size).filter (rS d)).Pairwise (· < ·):=List.Pairwise.filter _ List.pairwise_lt_range;refine List.Pairwise.imp_of_mem ?_ hp;intro i j hi hj gX;have hi':=List.mem_filter.1 hi;have hj':=List.mem_filter.1 hj;have S6:=List.mem_range.1 hj'.1;have h1:lt d[j]!.1 d[i]!.1=false:=hs i j (yg _) gX S6;refine FP h1 (fun e=>?_);have hk:=hi'.2;unfold rS at hk;have h2:d[i+1]!.1=d[i]!.1:=by
  by_cases e':i+1=j;·rw [e'];exact e
  have a1:lt d[i+1]!.1 d[i]!.1=false:=hs i (i+1) (yg _) (by omega) (by omega);have a2:lt d[j]!.1 d[i+1]!.1=false:=hs (i+1) j (yg _) (by omega) S6;rw [e] at a2;exact aEJ a1 a2
 rw [decide_eq_true (show i+1<d.size by omega),decide_eq_true h2] at hk;cases hk
theorem aU1 {d:Array Pr} (hn:∀ i j,i<j→j<d.size→d[i]!.1≠d[j]!.1) (hi:i<d.size):d[i]!∈lJ d d.size:=by
 unfold lJ;refine zj.2 ⟨i,List.mem_filter.2 ⟨List.mem_range.2 hi,?_⟩,rfl⟩;unfold rS;by_cases h:i+1<d.size
 ·have:=hn i (i+1) (by omega) h;rw [decide_eq_false (p:=d[i+1]!.1=d[i]!.1) (fun e=>this e.symm),Bool.and_false];rfl
 simp [h]
theorem a0Z {d:Array Pr} (h:i<d.size):d[i]!∈d.toList:=by
 rw [getElem!_pos d i h];simp
theorem aEE {d d':Array Pr} (h:Sort.PermIn 0 n d d') (hn:d.size=n):d'.toList.Perm d.toList:=by
 have h1:=h.2.2;have h2:d'.size=n:=by rw [h.1,hn]
 rw [show d'.extract 0 n=d' by rw [← h2];exact Array.extract_size,show d.extract 0 n=d by rw [← hn];exact Array.extract_size] at h1;exact h1
structure iI (l s:List Pr):Prop where
 rise:bR s
 sub:∀ p∈s,p∈l
 all:l.Pairwise (fun p q=>p.1≠q.1)→∀ p∈l,p∈s
theorem iI.lists {s:List Pr} {f:Mp} (h:iI l s) (hf:Has l f):eK s f:=
 ⟨h.rise,fun k v=>by rw [hf.2];exact⟨h.all hf.1 _,h.sub _⟩⟩
theorem a3J {d':Array Pr} (hp:d'.toList.Perm l) (hs:Sort.SortedIn dO 0 d'.size d'):iI l (lJ d' d'.size):=by
 refine⟨aSS hs,fun p qQ=>?_,fun hn p qQ=>?_⟩
 ·obtain⟨j,hj,_,rfl⟩:=aU0 qQ;exact hp.mem_iff.1 (a0Z hj)
 have hm:=hp.mem_iff.2 qQ;obtain⟨i,hi,e⟩:=List.getElem_of_mem hm;have hi':i<d'.size:=by simpa using hi
 have e':d'[i]! = p:=by rw [getElem!_pos d' i hi'];simpa using e
 rw [← e'];refine aU1 (fun i j gX hj=>?_) hi';have j5:d'.toList.Pairwise (fun p q=>p.1≠q.1):=(hp.symm.pairwise_iff (fun {a b} h e=>h e.symm)).1 hn;have:=List.pairwise_iff_getElem.1 j5 i j (by simpa using Nat.lt_trans gX hj) (by simpa using hj) gX;rw [getElem!_pos d' i (Nat.lt_trans gX hj),getElem!_pos d' j hj];simpa using this
theorem WU {w:World} {B k:Nat} {e:TypeId} {g cap:Nat} {cs:List Value} (h:w.ownsRow B e k (yC (yP ⟨g,0,yO⟩) n cap) n cs) (hm:m≤n):w.ownsRow B e k (yC (yP ⟨g,0,yO⟩) m cap) m (cs.take (m*k)):=by
 have hl:=h.1;have hk:m*k≤n*k:=Nat.mul_le_mul_right _ hm;refine⟨by rw [ze,hl];omega,.inr ?_⟩;rcases h.2 with ⟨h1,_⟩ | ⟨g',cap',cur,e1,hb,hh,h1,h2,h3,h4⟩
 ·cases h1
 cases e1;exact⟨g,cap,cur,rfl,hb,hh,yf hm h1,h2,h3,by rw [← h4,List.take_take,Nat.min_eq_left hk]⟩
theorem take_set {d:Array Pr} (h:m<d.size):(d.setIfInBounds m q).toList.take (m+1)=d.toList.take m ++ [q]:=by
 rw [Array.toList_setIfInBounds,List.take_add_one,List.take_set_of_le (ye _)];congr 1;rw [List.getElem?_set_self (by simpa using h)];rfl
theorem aII {d:Array Pr} {j:Nat} (h:j≠m):(d.setIfInBounds m q)[j]! = d[j]!:=by
 simp only [getElem!_def,Array.getElem?_setIfInBounds_ne (Ne.symm h)]
def SRt (B:Nat) (w0:World) (g n cap:Nat) (d':Array Pr) (i:Nat) (m:Nat) (W:World):Prop:=
 ∃ dk:Array Pr,SR B w0 g n cap dk W∧m=(lJ d' i).length∧dk.toList.take m=lJ d' i∧∀ j,i≤j→j<n→dk[j]! = d'[j]!
theorem aQC (fv:Value) (w:World):Calls yM 424 #[yC yO 0 0,yE yH 0,yE yH 0,fv] w fun e w'=>e = .returned (.tuple #[])∧w=w':=by
 go_enter func424,ntmps424;go_wp2_with fail
 go_loopg [8] 0 (fun kx s8 wr=>s8=yE yH 1∧wr=w)
 case atStart=>exact⟨rfl,rfl⟩
 obtain⟨rfl,rfl⟩:=hrel;go_wp2;go_end0;exact⟨rfl,rfl⟩
theorem aST (fv:Value) (w:World):Calls yM 388 #[yC yO 0 0,yE yH 0,fv] w fun e w'=>e = .returned (.tuple #[])∧w=w':=by
 go_enter func388,ntmps388;go_wp2_with fail
 go_loopg [7,8] 0 (fun kx s7 s8 wr=>s7=yE yH 0∧s8=yE yH 20∧wr=w)
 case atStart=>exact⟨rfl,rfl,rfl⟩
 obtain⟨rfl,rfl,rfl⟩:=hrel;go_wp2_with fail;refine (aQC fv _).mono ?_;rintro e w' ⟨rfl,rfl⟩;go_wp2_with fail
 go_loopg [6] 0 (fun kx s6 wx=>s6=yE yH 20∧wx=wr)
 case atStart=>exact⟨rfl,rfl⟩
 obtain⟨rfl,rfl⟩:=hrel;go_wp2;go_end0;exact⟨rfl,rfl⟩
theorem aPX (fv:Value) (w:World):Calls yM 320 #[yC yO 0 0,fv] w fun e w'=>e = .returned (.tuple #[])∧w=w':=by
 go_enter func320,ntmps320;go_wp2_with fail;refine (aST fv _).mono ?_;rintro e w' ⟨rfl,rfl⟩;go_wp2;go_end0;exact⟨rfl,rfl⟩
theorem U6 (n:Nat) (v:Value) (l:List Pr) (w:World) (h:Rd w v n (aK l)) (hl:n=l.length) (hn:n<40) :
  Calls yM 256 #[v] w fun e w'=>∃ v' s,e = .returned v'∧w'.ownsRow w.heap.size 52 2 v' s.length (aK s)∧iI l s∧Kept w w':=by
 obtain⟨a,c,rfl⟩:=h.shape;have HR:=yN h;have HL:=yN hl;clear h hl;go_enter func256,ntmps256;go_wp2_with fail;refine (KF _ _ _ _ HR.o (by rw [lG,HL.o]) (by omega) (nQ _)).mono ?_;rintro e w1 ⟨v',rfl,ho,hk⟩;by_cases hnil:v'=yC yO 0 0
 ·subst hnil;have jM:n=0:=by
   rcases ho.2 with ⟨_,e⟩ | ⟨g',cap',cur,e,_⟩
   ·exact e
   cases e
  subst jM;have aJ:=yN hk;clear ho hk;go_wp2_with fail;refine (aPX _ _).mono ?_;rintro e w' ⟨rfl,rfl⟩;go_wp2_with fail
  go_loopg [4,13] 0 (fun kx s4 EP wr=>s4=yE yH 0∧EP=yE yH 0∧wr=w1)
  case atStart=>exact⟨rfl,rfl,rfl⟩
  obtain⟨rfl,rfl,rfl⟩:=hrel;go_wp2;go_ret;have e:l=[]:=List.eq_nil_of_length_eq_zero HL.o.symm;refine⟨_,[],rfl,⟨rfl,.inl ⟨rfl,rfl⟩⟩,?_,aJ.o⟩;rw [e];exact⟨List.Pairwise.nil,by simp,by simp⟩
 obtain⟨g',cap',rfl⟩:∃ g' cap',v'=yC (yP ⟨g',0,yO⟩) n cap':=by
  rcases ho.2 with ⟨e,_⟩ | ⟨g',cap',cur,e,_⟩
  ·exact absurd e hnil
  exact⟨g',cap',e⟩
 clear hnil;have hS:SR w.heap.size w1 g' n cap' l.toArray w1:=⟨by simpa using ho,P6 _ _,by simpa using HL.o.symm⟩;have S0:=yN hS;have aJ:=yN hk;clear ho hk hS;go_wp2_with fail;refine (aPW w.heap.size g' n cap' l.toArray w1 _ S0.o hn).mono ?_;rintro e w2 ⟨rfl,d',hp,hq,hs⟩;have IX:d'.size=n:=hs.2.2;have HD:=yN (yd hp (yd hq IX));have S2:=yN hs;clear hp hq hs S0 IX;go_wp2_with fail;have L4:w.heap.size≤w1.heap.size:=aJ.o.size
 go_loopg [4,13] n (fun kx s4 EP wr=>∃ m i:Nat,s4=yE yH m∧EP=yE yH i∧Hid (m≤i∧i≤n∧n-i≤kx)∧Hid (SRt w.heap.size w1 g' n cap' d' i m wr))
 case atStart=>exact⟨0,0,rfl,rfl,yN ⟨ye _,yg _,ye _⟩,yN ⟨d',S2.o,rfl,rfl,fun _ _ _=>rfl⟩⟩
 clear S2;obtain⟨m,i,rfl,rfl,ES,HT⟩:=hrel;have hmi:=ES.o;obtain⟨dk,ER,hm,wA,jB⟩:=HT.o;have S1:=yN ER;have HM:=yN (yd hm (yd wA jB));clear ER hm wA jB HT;by_cases hlt:i<n
 ·have cD:(i:Int)<(n:Int):=by omega
  obtain⟨i1,gR⟩:∃ i1:Nat,i1=i+1:=⟨_,rfl⟩;have ci1:(i:Int)+1=(i1:Int):=by omega
  have wi1:yH.wrap ((i:Int)+1)=(i1:Int):=by rw [zk];omega
  obtain⟨m1,jQ⟩:∃ m1:Nat,m1=m+1:=⟨_,rfl⟩;have cm1:(m:Int)+1=(m1:Int):=by omega
  have wm1:yH.wrap ((m:Int)+1)=(m1:Int):=by rw [zk];omega
  have SS:(m:Int)<(n:Int):=by omega
  have H8:m<n:=by omega
  obtain⟨q,hq⟩:∃ q,q=dk[i]!:=⟨_,rfl⟩;have c1:=S1.o.c1 hlt;have c2:=S1.o.c2 hlt;rw [← hq] at c1 c2;have HQ:=yN (show q=d'[i]! from by rw [hq];exact HM.o.2.2 i (ye _) hlt);have mA:=yN (yd gR jQ);clear gR jQ hq;go_wp2_with fail;obtain⟨aA,j9⟩:=aW wr (yL #[yA q.1,yA q.2] 52);have S2:=yN (S1.o.kept aA);clear S1 c1 c2 aA;generalize wr.alloc _=wz at *;generalize wr.heap.size=pb at *;have b0:wz.cell? ⟨pb,0,yO⟩=yP (yA q.1):=aG j9 rfl;have b1:wz.cell? ⟨pb,1,yO⟩=yP (yA q.2):=aG j9 rfl;clear j9;by_cases aK1:i1<n
  ·have a5K:(i1:Int)<(n:Int):=by omega
   obtain⟨q2,eY⟩:∃ q2,q2=dk[i1]!:=⟨_,rfl⟩;have c3:=S2.o.c1 aK1;rw [← eY] at c3;have HQ2:=yN (show q2=d'[i1]! from by rw [eY];exact HM.o.2.2 i1 (by have:=mA.o.1;omega) aK1);clear eY;have ht:=qJ q2.1 q.1;have t1:((i1:Int)).toNat=i1:=by omega
   have p1:(0:Int)≤(i1:Int)∧(i1:Int)<(n:Int):=by omega
   by_cases hk:q2.1=q.1
   ·rw [decide_eq_true hk] at ht
    have NN:Hid (rS d' i=false):=yN (by
     unfold rS;rw [decide_eq_true (show i+1<d'.size by have:=HD.o.2.2;have:=mA.o.1;omega),← HQ.o,show i+1=i1 from mA.o.1.symm,← HQ2.o,decide_eq_true hk];rfl)
    clear hk;go_wp2_with fail;go_region;go_wp2;go_roundg (n-i1);case measure=>have:=ES.o;have:=mA.o;omega
    have e1:=mA.o;have e2:=ES.o;have gS:lJ d' i1=lJ d' i:=by rw [e1.1,U5,if_neg (by rw [NN.o];simp),zi]
    exact⟨m,i1,rfl,rfl,yN (by omega),yN ⟨dk,S2.o.kept (ym (yk _ _)),by rw [gS];exact HM.o.1,by rw [gS];exact HM.o.2.1,fun j h1 h2=>HM.o.2.2 j (by omega) h2⟩⟩
   rw [decide_eq_false hk] at ht
   have NN:Hid (rS d' i=true):=yN (by
    unfold rS;rw [← HQ.o,show i+1=i1 from mA.o.1.symm,← HQ2.o,decide_eq_false hk,Bool.and_false];rfl)
   clear hk;obtain⟨zz,hzz⟩:∃ zz,zz=dk[m]!:=⟨_,rfl⟩;have z1:=S2.o.c1 H8;have z2:=S2.o.c2 H8;rw [← hzz] at z1 z2;clear hzz;have f1:wz.frozen? ⟨g',m*2,yO⟩=false:=S2.o.fz _;have f2:wz.frozen? ⟨g',m*2+1,yO⟩=false:=S2.o.fz _;have S3:Hid (SR w.heap.size w1 g' n cap' (dk.setIfInBounds m q) ((wz.drew.setCell ⟨g',m*2,yO⟩ (yA q.1)).setCell ⟨g',m*2+1,yO⟩ (yA q.2))):=yN ((S2.o.kept (ym (yk _ _))).set H8 q);go_wp2_with fail;go_region;go_wp2;go_roundg (n-i1);case measure=>have:=ES.o;have:=mA.o;omega
   have e1:=mA.o;have e2:=ES.o;have gS:lJ d' i1=lJ d' i ++ [q]:=by rw [e1.1,U5,if_pos NN.o,← HQ.o]
   refine⟨m1,i1,rfl,rfl,yN (by omega),yN ⟨_,S3.o,?_,?_,fun j h1 h2=>?_⟩⟩;·rw [gS,yy,← HM.o.1,e1.2];rfl
   ·rw [gS,e1.2,take_set (by have:=S2.o.2.2;omega),HM.o.2.1]
   rw [aII (by omega)];exact HM.o.2.2 j (by omega) h2
  have a5K:¬ (i1:Int)<(n:Int):=by omega
  have NN:Hid (rS d' i=true):=yN (by
   unfold rS;rw [decide_eq_false (show ¬ i+1<d'.size by have:=HD.o.2.2;have:=mA.o.1;omega),Bool.false_and];rfl)
  obtain⟨zz,hzz⟩:∃ zz,zz=dk[m]!:=⟨_,rfl⟩;have z1:=S2.o.c1 H8;have z2:=S2.o.c2 H8;rw [← hzz] at z1 z2;clear hzz;have f1:wz.frozen? ⟨g',m*2,yO⟩=false:=S2.o.fz _;have f2:wz.frozen? ⟨g',m*2+1,yO⟩=false:=S2.o.fz _;have S3:Hid (SR w.heap.size w1 g' n cap' (dk.setIfInBounds m q) ((wz.drew.setCell ⟨g',m*2,yO⟩ (yA q.1)).setCell ⟨g',m*2+1,yO⟩ (yA q.2))):=yN ((S2.o.kept (ym (yk _ _))).set H8 q);go_wp2_with fail;go_region;go_wp2;go_roundg (n-i1);case measure=>have:=ES.o;have:=mA.o;omega
  have e1:=mA.o;have e2:=ES.o;have gS:lJ d' i1=lJ d' i ++ [q]:=by rw [e1.1,U5,if_pos NN.o,← HQ.o]
  refine⟨m1,i1,rfl,rfl,yN (by omega),yN ⟨_,S3.o,?_,?_,fun j h1 h2=>?_⟩⟩;·rw [gS,yy,← HM.o.1,e1.2];rfl
  ·rw [gS,e1.2,take_set (by have:=S2.o.2.2;omega),HM.o.2.1]
  rw [aII (by omega)];exact HM.o.2.2 j (by omega) h2
 have dI:i=n:=by omega
 subst dI;have j8:(m:Int)≤(cap':Int):=by
  have h1:i≤cap':=by
   rcases S1.o.1.2 with ⟨e,_⟩ | ⟨g3,bG6,cur,e,_,_,h3,_⟩
   ·cases e
   cases e;exact h3
  omega
 have zR:(0:Int)≤(m:Int):=by omega
 clear hlt;go_wp2_with fail;go_ret;have gS:=HM.o.2.1;have IX:=HD.o.2.2;refine⟨_,lJ d' i,rfl,?_,?_,?_⟩
 ·have h1:=WU S1.o.1 hmi.1;rw [FY,gS] at h1;rw [← HM.o.1];exact h1
 ·have hs:=a3J (l:=l) (d':=d') (by
   have:=aEE HD.o.1 (by simpa using HL.o.symm)
   simpa using this) (by rw [IX];exact HD.o.2.1)
  rw [IX] at hs;exact hs
 exact Below.grown aJ.o S1.o.2.1 L4 (fun k hk=>by cases hk;exact S1.o.le)
end
section
theorem a2Z (m:Nat) (w:World) (h0:0<m) (hm:m≤1000000):Calls yM 432 #[yC yO 0 0,yE yH m] w fun e w'=>∃ v,e = .returned v∧w'.ownsRow w.heap.size 52 2 v 0 []∧Kept w w':=by
 obtain⟨i0,bS,hz0,hzs,hzb⟩:=info_parts yU
 have lS:∀ ty,(Builtin.append_ #[27,3] ty #[yC yO 0 0,yE yH m]).run yM w =
   .ok (yC (yP ⟨w.heap.size,0,yO⟩) m (grownCap w m 0 52)) (w.drew.alloc (yL (#[]++zm (yF #[yA yj,yA yj]).cells m++zm (yF #[yA yj,yA yj]).cells (grownCap w m 0 52-m)) 52)):=fun ty=>by
  have h:=Lib.run_append_grow_zeros w 27 3 ty 52 i0 _ .i64 .i64 underlying27 underlying3 bS hz0 yO 0 0 [] (by simp [Builtin.firstCells]) m (by omega) (by omega) (by omega) (by omega) (by rw [hzb];omega) (by rw [hzb];exact growslice_fits (by omega) (by omega));rw [Nat.zero_add] at h;exact h
 obtain⟨G,hG⟩:∃ G,G=grownCap w m 0 52:=⟨_,rfl⟩;rw [← hG] at lS;have zN:m≤G:=by rw [hG];exact grownCap_ge w _ _ _
 have xJ:G≤maxLen:=by rw [hG];exact grownCap_le_maxLen w m 0 _ (by unfold maxLen;omega)
 obtain⟨ROW,qM⟩:∃ ROW:Array Value,ROW=#[]++zm (yF #[yA yj,yA yj]).cells m++zm (yF #[yA yj,yA yj]).cells (G-m):=⟨_,rfl⟩;rw [← qM] at lS;have xK:ROW.size=G*2:=by
  rw [qM];simp [zm,Value.cells];omega
 obtain⟨W1,hW1⟩:∃ W1,W1=w.drew.alloc (yL ROW 52):=⟨_,rfl⟩;rw [← hW1] at lS;have sG:W1.heap[w.heap.size]?=yP (yL ROW 52 (0,0)):=by rw [hW1];exact bM w.drew _
 have kS:Kept w W1:=by rw [hW1];exact (yk _ w).drew.alloc (ye _) _
 have HN:=yN (yd sG kS);have HR:=yN xK;have HG:=yN xJ;clear hW1 sG kS qM xK hG xJ;go_enter func432,ntmps432;go_wp2_with (at_builtin;refine Lib.wpList_append_run _ rfl _ _ _ _ rfl _ _ rfl rfl _ _ (lS _) ?_);go_ret;exact⟨_,rfl,⟨rfl,.inr ⟨_,G,ROW,rfl,ye _,HN.o.1,yg _,HG.o,HR.o,by simp⟩⟩,HN.o.2⟩
theorem aXY (w:World):Calls yM 432 #[yC yO 0 0,yE yH 0] w fun e w'=>e = .returned (yC yO 0 0)∧w=w':=by
 go_enter func432,ntmps432;go_wp2;go_ret;exact⟨rfl,rfl⟩
theorem aXZ (m:Nat) (w:World) (hm:m≤1000000):Calls yM 432 #[yC yO 0 0,yE yH m] w fun e w'=>∃ v,e = .returned v∧w'.ownsRow w.heap.size 52 2 v 0 []∧Kept w w':=by
 by_cases h:m=0
 ·subst h;refine (aXY w).mono ?_;rintro e w' ⟨rfl,rfl⟩;exact⟨_,rfl,⟨rfl,.inl ⟨rfl,rfl⟩⟩,yk _ w⟩
 exact a2Z m w (by omega) hm
def Pt (w:World) (q:Value × Nat × List Value):Prop:=
 q.2.2.length=q.2.1*2∧(∀ u∈q.2.2,u.oneCell'=true)∧((q.1=yC yO 0 0∧q.2.1=0)∨∃ ad cap,q.1=yC (yP ad) q.2.1 cap∧∀ j u,q.2.2[j]?=yP u→w.cell? (ad.add j)=yP u)
def total (ps:List (Value × Nat × List Value)):Nat:=(ps.map fun q=>q.2.1).sum
theorem aE4 (ps:List (Value × Nat × List Value)) (j:Nat) (q:Value × Nat × List Value) (h:ps[j]?=yP q):total (ps.take (j+1))=total (ps.take j)+q.2.1:=by
 unfold total;rw [List.take_add_one,h];simp
theorem aUM (ps:List (Value × Nat × List Value)) (j:Nat) (q:Value × Nat × List Value) (h:ps[j]?=yP q):(ps.take (j+1)).flatMap (fun q=>q.2.2)=(ps.take j).flatMap (fun q=>q.2.2)++q.2.2:=by
 rw [List.take_add_one,h];simp
theorem aG6 (ps:List (Value × Nat × List Value)) (j:Nat):total (ps.take j)≤total ps:=by
 unfold total;rw [List.map_take];have:=List.take_append_drop j (ps.map fun q=>q.2.1);have h2:=congrArg List.sum this;rw [List.sum_append] at h2;omega
theorem C4 (pb m:Nat) (ps:List (Value × Nat × List Value)) (w:World) (hm:m=ps.length) (uH:m≤1000) (hc:∀ j q,ps[j]?=yP q→w.cell? ⟨pb,j,yO⟩=yP q.1) (hp:∀ q∈ps,Pt w q) (hs:total ps≤1000000) :
  Calls yM 409 #[yC (yP ⟨pb,0,yO⟩) m m] w fun e w'=>∃ v,e = .returned v∧w'.ownsRow w.heap.size 52 2 v (total ps) (ps.flatMap fun q=>q.2.2)∧Kept w w':=by
 obtain⟨i0,bS,hz0,hzs,hzb⟩:=info_parts yU;have HC:=yN hc;have HP:=yN hp;have HM:=yN hm;have HI:=yN (yd bS (yd hz0 (yd hzs hzb)));obtain⟨tot,aKL⟩:∃ tot,tot=total ps:=⟨_,rfl⟩;rw [← aKL] at hs ⊢;have HT:=yN aKL;clear hc hp hm bS hz0 hzs hzb aKL;go_enter func409,ntmps409;go_wp2_with fail
 go_loopg [3,11] m (fun kx s3 jN wr=>∃ j t:Nat,s3=yE yH t∧jN=yE yH j∧j≤m∧m-j≤kx∧wr=w∧t≤1000000∧Hid (t=total (ps.take j)))
 case atStart=>exact⟨0,0,rfl,rfl,yg _,ye _,rfl,by omega,yN rfl⟩
 obtain⟨j,t,rfl,rfl,hjm,hg,rfl,ht,HJ⟩:=hrel;by_cases hlt:j<m
 ·obtain⟨q,hq⟩:∃ q,ps[j]?=yP q:=⟨ps[j]'(by have:=HM.o;omega),List.getElem?_eq_getElem _⟩;have e0:=HC.o j q hq;have eY:=aE4 ps j q hq;have hle:=aG6 ps (j+1);rw [eY,← HJ.o,← HT.o] at hle;have bN:∃ a cap,q.1=yC a q.2.1 cap:=by
   rcases (HP.o q (List.mem_of_getElem? hq)).2.2 with ⟨h1,h2⟩ | ⟨ad,cap,h1,_⟩
   ·exact⟨yO,0,by rw [h1,h2]⟩
   exact⟨_,_,h1⟩
  obtain⟨a,cap,bN⟩:=bN;rw [bN] at e0;have HQ:=yN eY;clear eY bN hq;obtain⟨k,hk⟩:∃ k,k=q.2.1:=⟨_,rfl⟩;rw [← hk] at e0 hle;have HK:=yN hk;clear hk;go_wp2_with fail;go_roundg (m-(j+1));case measure=>omega
  refine⟨j+1,t+k,by congr 1,by congr 1,by omega,ye _,rfl,by omega,yN ?_⟩;rw [HQ.o,← HJ.o,HK.o]
 have hj:j=m:=by omega
 subst hj;have htt:t=tot:=by rw [HJ.o,HT.o,List.take_of_length_le (by have:=HM.o;omega)]
 subst htt;go_wp2_with fail;refine (aXZ t _ (by omega)).mono ?_;rintro e w1 ⟨v1,rfl,gH,aS⟩;have eE:=yN gH;have aJ:=yN aS;clear gH aS;go_wp2_with fail
 go_loopg [6,27] j (fun kx s6 s27 wx=>∃ (i:Nat) (v:Value),s6=v∧s27=yE yH i∧i≤j∧j-i≤kx∧Hid (wx.ownsRow wr.heap.size 52 2 v (total (ps.take i)) ((ps.take i).flatMap fun q=>q.2.2))∧Hid (Kept wr wx))
 case atStart=>exact⟨0,v1,rfl,rfl,yg _,ye _,eE,aJ⟩
 clear eE aJ;obtain⟨i,v,rfl,rfl,gX,hg2,HO,HK⟩:=hrel;by_cases vF:i<j
 ·obtain⟨q,hq⟩:∃ q,ps[i]?=yP q:=⟨ps[i]'(by have:=HM.o;omega),List.getElem?_eq_getElem _⟩;have e0:=HK.o.cell (HC.o i q hq);have eY:=aE4 ps i q hq;have hfl:=aUM ps i q hq;have hle:=aG6 ps (i+1);rw [eY,← HT.o] at hle;obtain⟨hql,mK,hqc⟩:=HP.o q (List.mem_of_getElem? hq);obtain⟨EF,bS,hz0,hzs,hzb⟩:∃ EF,yM.info? 52=yP EF∧EF.zero=yP (yF #[yA yj,yA yj])∧EF.size=2∧EF.bytes=32:=⟨i0,HI.o⟩;have HQ:=yN (yd eY hfl);have HL:=yN hle;have HQ1:=yN (yd hql mK);clear eY hfl hq hle hql mK;rcases hqc with ⟨h1,h2⟩ | ⟨ad,cap,h1,hcc⟩
  ·rw [h1] at e0;have HH:=yN h2;clear h1 h2;go_wp2_with (at_builtin;refine wpList_append_own_none rfl _ _ 27 rfl _ 52 EF 2 underlying27 bS _ _ _ rfl HO.o rfl ?_);go_roundg (j-(i+1));case measure=>omega
   refine⟨i+1,_,rfl,by congr 1,by omega,ye _,yN ?_,HK⟩;have h0:q.2.2=[]:=List.eq_nil_of_length_eq_zero (by rw [HQ1.o.1,HH.o]);rw [HQ.o.1,HQ.o.2,HH.o,h0,zi];exact HO.o
  rw [h1] at e0;have IU:=yN (show ∀ j u,q.2.2[j]?=yP u→wr.cell? (ad.add j)=yP u from fun j u hj=>HK.o.cell (hcc j u hj));clear h1 hcc;have hB:=HK.o.size;go_wp2_with (at_builtin;refine wpList_append_own _ rfl _ _ 27 rfl _ 52 EF (yF #[yA yj,yA yj]) 2 32 underlying27 bS hz0 hzs hzb rfl (by decide) _ _ _ rfl HO.o ad q.2.1 cap q.2.2 rfl HQ1.o.1 IU.o HQ1.o.2 (by have:=HL.o;unfold maxLen;omega) (by have:=HL.o;omega) hB ?_);intro v2 w2 hown hgrow _;have dZ:=yN hown;have aH:=yN (show Kept _ w2 from Below.grown HK.o hgrow hB (fun k hk=>(HO.o.lt k hk).1));clear hown hgrow;go_wp2_with fail;go_roundg (j-(i+1));case measure=>omega
  refine⟨i+1,v2,rfl,by congr 1,by omega,ye _,yN ?_,aH⟩;rw [HQ.o.1,HQ.o.2];exact dZ.o
 have hie:i=j:=by omega
 subst hie;go_wp2_with fail;go_ret;refine⟨_,rfl,?_,HK.o⟩;have:=HO.o;rw [List.take_of_length_le (by have:=HM.o;omega)] at this;rw [HT.o];exact this
end
section
attribute [local irreducible] eR eL
variable {ix B n cap g:Nat} {l:List Pr} {w:World}
theorem J7 (v:Value) (n:Nat) (k:Key) (l:List Pr) (w:World) (h:Rd w v n (aK l)) (hn:n=l.length) (hb:n≤1000000) (hr:bR l) :
  Calls yM 314 #[v,yA k] w fun e w'=>e = .returned (.tuple #[yE yH (eR l k:Nat),yD (eL l k)])∧Kept w w':=by
 have hs:=aSE v n k l w h hn hb hr;obtain⟨a,cap,rfl⟩:=h.shape;have HS:=yN hs;clear h hs hr hn;go_enter func314,ntmps314;go_wp2_with fail;refine HS.o.mono ?_;rintro e w' ⟨rfl,hk⟩;go_wp2;go_ret2;exact⟨rfl,hk⟩
theorem F9 (h:w.ownsRow B 52 2 (yC (yP ⟨g,0,yO⟩) n cap) n (aK l)) (hn:n=l.length) (lX:ix≤n):Pt w (yC (yP ⟨g,0,yO⟩) ix cap,ix,aK (l.take ix)):=by
 refine⟨by rw [lG,ze];show min ix l.length*2=ix*2;rw [Nat.min_eq_left (by omega)],nQ _,.inr ⟨_,_,rfl,fun j u hj=>?_⟩⟩;have hj':(aK (l.take ix))[j]?=yP u:=hj;rw [← FY,List.getElem?_take] at hj'
 split at hj'
 ·rw [Addr.add_lit,Nat.zero_add];exact gU h hj'
 cases hj'
theorem VE (h:w.ownsRow B 52 2 (yC (yP ⟨g,0,yO⟩) n cap) n (aK l)) (hn:n=l.length) (ix c:Nat):Pt w (yC (yP ⟨g,ix*2,yO⟩) (n-ix) c,n-ix,aK (l.drop ix)):=by
 refine⟨by rw [lG,zg];show (l.length-ix)*2=(n-ix)*2;rw [hn],nQ _,.inr ⟨_,_,rfl,fun j u hj=>?_⟩⟩;have hj':(aK (l.drop ix))[j]?=yP u:=hj;rw [← JQ,List.getElem?_drop] at hj';rw [Addr.add_lit];exact gU h hj'
theorem VT (a:Addr) (c:Nat) (hn:n=l.length) (h:n≤ix):Pt w (yC (yP a) (n-ix) c,n-ix,aK (l.drop ix)):=by
 have e:l.drop ix=[]:=List.drop_eq_nil_of_le (by omega);refine⟨?_,?_,.inr ⟨_,_,rfl,fun j u hj=>?_⟩⟩
 ·show (aK (l.drop ix)).length=(n-ix)*2;rw [e,show n-ix=0 by omega];rfl
 ·show ∀ u∈aK (l.drop ix),_;rw [e];intro u hu;cases hu
 have hj':(aK (l.drop ix))[j]?=yP u:=hj;rw [e] at hj';cases hj'
theorem J8 {vb:Nat} {p:Pr} {T:TypeId} (h:w.heap[vb]?=yP (yL #[yA p.1,yA p.2] T (0,0))):Pt w (yC (yP ⟨vb,0,yO⟩) 1 1,1,[yA p.1,yA p.2]):=by
 refine⟨rfl,fun u hu=>?_,.inr ⟨_,_,rfl,fun j u hj=>?_⟩⟩
 ·have hu':u∈([yA p.1,yA p.2]:List Value):=hu;simp at hu';rcases hu' with rfl | rfl <;> rfl
 rw [Addr.add_lit,Nat.zero_add];exact aG h hj
theorem Pt.kept {w':World} {q:Value × Nat × List Value} (h:Pt w q) (hk:Kept w w'):Pt w' q:=by
 refine⟨h.1,h.2.1,?_⟩;rcases h.2.2 with h' | ⟨ad,cap,h1,h2⟩
 ·exact .inl h'
 exact .inr ⟨ad,cap,h1,fun j u hj=>hk.cell (h2 j u hj)⟩
theorem G0:Rd w (yC yO 0 0) 0 []:=.inl ⟨yO,0,rfl,by unfold maxLen;omega,rfl,rfl⟩
theorem aFX:Pt w (yC yO 0 0,0,[]):=⟨rfl,(by intro u hu;cases hu),.inl ⟨rfl,rfl⟩⟩
theorem aX0 (g n cap:Nat) (p:Pr) (l:List Pr) (B:Nat) (w:World) (h:w.ownsRow B 52 2 (yC (yP ⟨g,0,yO⟩) n cap) n (aK l)) (hn:n=l.length) (hb:n≤100000) (iE:n≤cap) (hr:bR l) :
  Calls yM 354 #[yC (yP ⟨g,0,yO⟩) n cap,yF #[yA p.1,yA p.2]] w fun e w'=>∃ v,e = .returned v∧w'.ownsRow w.heap.size 52 2 v (fL l p).length (aK (fL l p))∧Kept w w':=by
 have HO:=yN h;have HR:=yN hr;have HN:=yN hn;have lX:=XE l p.1;rw [← hn] at lX;obtain⟨ix,DZ⟩:∃ ix,ix=eR l p.1:=⟨_,rfl⟩;obtain⟨ok,mY⟩:∃ ok,ok=eL l p.1:=⟨_,rfl⟩;rw [← DZ] at lX;have HX:=yN (yd DZ mY);have YU:ok=true→ix<n:=fun e=>by
  rw [mY] at e;obtain⟨q,hq,_⟩:=(GZ l p.1).1 e;rw [DZ,hn];exact (List.getElem?_eq_some_iff.1 hq).1
 have HIX:=yN YU;clear h hr hn DZ mY YU;go_enter func354,ntmps354;go_wp2_with fail;obtain⟨bF,hb0⟩:=aW w (yL #[yA p.1,yA p.2] 52);have bG:=yN bF;have gI:=yN hb0;clear bF hb0;obtain⟨pb,kU⟩:∃ pb,pb=w.heap.size:=⟨_,rfl⟩;have HPB:=yN kU;rw [← kU] at gI ⊢;clear kU;generalize w.alloc _=w0 at *;refine (J7 _ n p.1 l _ (dH (bT HO.o bG.o)) HN.o (by omega) HR.o).mono ?_;rw [← HX.o.1,← HX.o.2];rintro e w1 ⟨rfl,aS⟩;have aJ:=yN (aB bG.o aS);have b0:w1.cell? ⟨pb,0,yO⟩=yP (yA p.1):=aS.cell (aG gI.o rfl);have b1:w1.cell? ⟨pb,1,yO⟩=yP (yA p.2):=aS.cell (aG gI.o rfl);clear aS;cases ok with
 | true=>
  have hlt:=HIX.o rfl;have hne:¬ cap=ix:=by omega
  have hb1:(0:Int)≤(ix:Int)+1∧(ix:Int)+1≤(n:Int):=by omega
  have a7F:(ix:Int)+1≤(n:Int):=by omega
  have xI:((ix:Int)+1).toNat=ix+1:=by omega
  have hw:yH.wrap ((ix:Int)+1)=(ix:Int)+1:=by rw [zk];omega
  have hw':wrap64 ((ix:Int)+1)=(ix:Int)+1:=by unfold wrap64;omega
  by_cases hc:cap=ix+1
  ·go_wp2_with fail;have M5:(ix:Int)≤(ix:Int)+1:=by omega
   have LY:(ix:Int)≤(cap:Int):=by omega
   have aP:=yN (dY aJ.o);refine cP (fun W:World=>W.cell? ⟨pb,0,yO⟩=yP (yA p.1)∧W.cell? ⟨pb,1,yO⟩=yP (yA p.2)) 8 9 ⟨b0,b1⟩ fun HS=>?_;clear b0 b1 aJ;generalize w1.drew=wd at *;refine tM 0 HS ?_;refine tM 1 HS ?_;refine tM 2 HS ?_;refine lM 3 HS ?_;refine tM 5 HS ?_;go_frame;refine oM 4 fun K hK=>?_;go_simp;have aA:=aZ wd (yL #[yA p.1,yA p.2] 52);have iG:=yN (bM wd (yL #[yA p.1,yA p.2] 52));have aF:=yN (aD bL aA HS.o);have eX:=yN (aB aP.o aA);refine hK _ _ (.inr aF.o) ?_;clear hK K HS aP aA;generalize wd.alloc _=wv at *;generalize wd.heap.size=vb at *;refine oM 6 fun K hK=>?_;go_simp;have aA:=aZ wv (yL #[yC (yP ⟨g,0,yO⟩) ix (ix+1),yC (yP ⟨vb,0,yO⟩) 1 1,yC (yP ⟨g,0,yO⟩) (n-(ix+1)) 0] 27);have iN:=yN (bM wv (yL #[yC (yP ⟨g,0,yO⟩) ix (ix+1),yC (yP ⟨vb,0,yO⟩) 1 1,yC (yP ⟨g,0,yO⟩) (n-(ix+1)) 0] 27));have gJ:=yN (aD bL aA aF.o);have dE:=yN (aB eX.o aA);have sH:=yN ((aA.block _ (yo.1 iG.o).1).trans iG.o);refine hK _ _ (.inr gJ.o) ?_;clear hK K aF eX iG aA;generalize wv.alloc _=wp at *;generalize wv.heap.size=qb at *;refine oM 7 fun K hK=>?_;go_simp;refine (C4 qb 3 [(yC (yP ⟨g,0,yO⟩) ix (ix+1),ix,aK (l.take ix)),(yC (yP ⟨vb,0,yO⟩) 1 1,1,[yA p.1,yA p.2]),(yC (yP ⟨g,0,yO⟩) (n-(ix+1)) 0,n-(ix+1),aK (l.drop (ix+1)))] wp rfl (by decide) ?_ ?_ ?_).mono ?_
   ·intro j q hj
    match j,hj with
    | 0,hj=>cases hj;exact aG iN.o rfl
    | 1,hj=>cases hj;exact aG iN.o rfl
    | 2,hj=>cases hj;exact aG iN.o rfl
   ·intro q hq;have pH:=dE.o;simp only [yx,zc,or_false] at hq;rcases hq with rfl | rfl | rfl
    ·exact (by have:=F9 (ix:=ix) (bT HO.o pH) HN.o lX;rw [hc] at this;exact this)
    ·exact J8 sH.o
    exact VT _ _ HN.o (by omega)
   ·show (yC (yP ⟨g,0,yO⟩) ix (ix+1),ix,aK (l.take ix)).2.1+(1+((yC (yP ⟨g,0,yO⟩) (n-(ix+1)) 0,n-(ix+1),aK (l.drop (ix+1))).2.1+0))≤1000000;simp only [];omega
   rintro e w9 ⟨v9,rfl,sI,eZ⟩;have fG:=yN (aD bL eZ gJ.o);have pI:=yN (dG sI dE.o.size);have eO:=yN (aB dE.o eZ);refine hK _ _ (.inr fG.o) ?_;clear hK K gJ dE sI eZ;refine oM 8 fun K hK=>?_;go_simp;refine hK _ _ aX ?_;clear hK K;refine cM ?_;go_wp2;go_ret;refine⟨v9,rfl,?_,eO.o⟩;have:=pI.o;have e:fL l p=l.take ix++p::l.drop (ix+1):=by rw [KD,← HX.o.1,← HX.o.2];simp
   have e2:(fL l p).length=ix+(1+(n-(ix+1)+0)):=by
    rw [e,yy,ze,zh,zg,← HN.o,Nat.min_eq_left lX];omega
   rw [e2,e,lH];simpa [total,aK] using this
  go_wp2_with fail;have M5:(ix:Int)≤(ix:Int)+1:=by omega
  have LY:(ix:Int)≤(cap:Int):=by omega
  have aP:=yN (dY aJ.o);refine cP (fun W:World=>W.cell? ⟨pb,0,yO⟩=yP (yA p.1)∧W.cell? ⟨pb,1,yO⟩=yP (yA p.2)) 8 9 ⟨b0,b1⟩ fun HS=>?_;clear b0 b1 aJ;generalize w1.drew=wd at *;refine tM 0 HS ?_;refine tM 1 HS ?_;refine tM 2 HS ?_;refine lM 3 HS ?_;refine tM 5 HS ?_;go_frame;refine oM 4 fun K hK=>?_;go_simp;have aA:=aZ wd (yL #[yA p.1,yA p.2] 52);have iG:=yN (bM wd (yL #[yA p.1,yA p.2] 52));have aF:=yN (aD bL aA HS.o);have eX:=yN (aB aP.o aA);refine hK _ _ (.inr aF.o) ?_;clear hK K HS aP aA;generalize wd.alloc _=wv at *;generalize wd.heap.size=vb at *;refine oM 6 fun K hK=>?_;go_simp;have aA:=aZ wv (yL #[yC (yP ⟨g,0,yO⟩) ix cap,yC (yP ⟨vb,0,yO⟩) 1 1,yC (yP ⟨g,(ix+1)*2,yO⟩) (n-(ix+1)) (cap-(ix+1))] 27);have iN:=yN (bM wv (yL #[yC (yP ⟨g,0,yO⟩) ix cap,yC (yP ⟨vb,0,yO⟩) 1 1,yC (yP ⟨g,(ix+1)*2,yO⟩) (n-(ix+1)) (cap-(ix+1))] 27));have gJ:=yN (aD bL aA aF.o);have dE:=yN (aB eX.o aA);have sH:=yN ((aA.block _ (yo.1 iG.o).1).trans iG.o);refine hK _ _ (.inr gJ.o) ?_;clear hK K aF eX iG aA;generalize wv.alloc _=wp at *;generalize wv.heap.size=qb at *;refine oM 7 fun K hK=>?_;go_simp;refine (C4 qb 3 [(yC (yP ⟨g,0,yO⟩) ix cap,ix,aK (l.take ix)),(yC (yP ⟨vb,0,yO⟩) 1 1,1,[yA p.1,yA p.2]),(yC (yP ⟨g,(ix+1)*2,yO⟩) (n-(ix+1)) (cap-(ix+1)),n-(ix+1),aK (l.drop (ix+1)))] wp rfl (by decide) ?_ ?_ ?_).mono ?_
  ·intro j q hj
   match j,hj with
   | 0,hj=>cases hj;exact aG iN.o rfl
   | 1,hj=>cases hj;exact aG iN.o rfl
   | 2,hj=>cases hj;exact aG iN.o rfl
  ·intro q hq;have pH:=dE.o;simp only [yx,zc,or_false] at hq;rcases hq with rfl | rfl | rfl
   ·exact F9 (bT HO.o pH) HN.o lX
   ·exact J8 sH.o
   exact VE (bT HO.o pH) HN.o (ix+1) _
  ·show (yC (yP ⟨g,0,yO⟩) ix cap,ix,aK (l.take ix)).2.1+(1+((yC (yP ⟨g,(ix+1)*2,yO⟩) (n-(ix+1)) (cap-(ix+1)),n-(ix+1),aK (l.drop (ix+1))).2.1+0))≤1000000;simp only [];omega
  rintro e w9 ⟨v9,rfl,sI,eZ⟩;have fG:=yN (aD bL eZ gJ.o);have pI:=yN (dG sI dE.o.size);have eO:=yN (aB dE.o eZ);refine hK _ _ (.inr fG.o) ?_;clear hK K gJ dE sI eZ;refine oM 8 fun K hK=>?_;go_simp;refine hK _ _ aX ?_;clear hK K;refine cM ?_;go_wp2;go_ret;refine⟨v9,rfl,?_,eO.o⟩;have:=pI.o;have e:fL l p=l.take ix++p::l.drop (ix+1):=by rw [KD,← HX.o.1,← HX.o.2];simp
  have e2:(fL l p).length=ix+(1+(n-(ix+1)+0)):=by
   rw [e,yy,ze,zh,zg,← HN.o,Nat.min_eq_left lX];omega
  rw [e2,e,lH];simpa [total,aK] using this
 | false=>
  by_cases hc:cap=ix
  ·go_wp2_with fail;have M5:(ix:Int)≤(ix:Int)+1:=by omega
   have LY:(ix:Int)≤(cap:Int):=by omega
   have aP:=yN (dY aJ.o);refine cP (fun W:World=>W.cell? ⟨pb,0,yO⟩=yP (yA p.1)∧W.cell? ⟨pb,1,yO⟩=yP (yA p.2)) 8 9 ⟨b0,b1⟩ fun HS=>?_;clear b0 b1 aJ;generalize w1.drew=wd at *;refine tM 0 HS ?_;refine tM 1 HS ?_;refine tM 2 HS ?_;refine lM 3 HS ?_;refine tM 5 HS ?_;go_frame;refine oM 4 fun K hK=>?_;go_simp;have aA:=aZ wd (yL #[yA p.1,yA p.2] 52);have iG:=yN (bM wd (yL #[yA p.1,yA p.2] 52));have aF:=yN (aD bL aA HS.o);have eX:=yN (aB aP.o aA);refine hK _ _ (.inr aF.o) ?_;clear hK K HS aP aA;generalize wd.alloc _=wv at *;generalize wd.heap.size=vb at *;refine oM 6 fun K hK=>?_;go_simp;have aA:=aZ wv (yL #[yC (yP ⟨g,0,yO⟩) ix ix,yC (yP ⟨vb,0,yO⟩) 1 1,yC (yP ⟨g,0,yO⟩) (n-ix) 0] 27);have iN:=yN (bM wv (yL #[yC (yP ⟨g,0,yO⟩) ix ix,yC (yP ⟨vb,0,yO⟩) 1 1,yC (yP ⟨g,0,yO⟩) (n-ix) 0] 27));have gJ:=yN (aD bL aA aF.o);have dE:=yN (aB eX.o aA);have sH:=yN ((aA.block _ (yo.1 iG.o).1).trans iG.o);refine hK _ _ (.inr gJ.o) ?_;clear hK K aF eX iG aA;generalize wv.alloc _=wp at *;generalize wv.heap.size=qb at *;refine oM 7 fun K hK=>?_;go_simp;refine (C4 qb 3 [(yC (yP ⟨g,0,yO⟩) ix ix,ix,aK (l.take ix)),(yC (yP ⟨vb,0,yO⟩) 1 1,1,[yA p.1,yA p.2]),(yC (yP ⟨g,0,yO⟩) (n-ix) 0,n-ix,aK (l.drop (ix)))] wp rfl (by decide) ?_ ?_ ?_).mono ?_
   ·intro j q hj
    match j,hj with
    | 0,hj=>cases hj;exact aG iN.o rfl
    | 1,hj=>cases hj;exact aG iN.o rfl
    | 2,hj=>cases hj;exact aG iN.o rfl
   ·intro q hq;have pH:=dE.o;simp only [yx,zc,or_false] at hq;rcases hq with rfl | rfl | rfl
    ·exact (by have:=F9 (ix:=ix) (bT HO.o pH) HN.o lX;rw [hc] at this;exact this)
    ·exact J8 sH.o
    exact VT _ _ HN.o (by omega)
   ·show (yC (yP ⟨g,0,yO⟩) ix ix,ix,aK (l.take ix)).2.1+(1+((yC (yP ⟨g,0,yO⟩) (n-ix) 0,n-ix,aK (l.drop (ix))).2.1+0))≤1000000;simp only [];omega
   rintro e w9 ⟨v9,rfl,sI,eZ⟩;have fG:=yN (aD bL eZ gJ.o);have pI:=yN (dG sI dE.o.size);have eO:=yN (aB dE.o eZ);refine hK _ _ (.inr fG.o) ?_;clear hK K gJ dE sI eZ;refine oM 8 fun K hK=>?_;go_simp;refine hK _ _ aX ?_;clear hK K;refine cM ?_;go_wp2;go_ret;refine⟨v9,rfl,?_,eO.o⟩;have:=pI.o;have e:fL l p=l.take ix++p::l.drop (ix):=by rw [KD,← HX.o.1,← HX.o.2];simp
   have e2:(fL l p).length=ix+(1+(n-(ix)+0)):=by
    rw [e,yy,ze,zh,zg,← HN.o,Nat.min_eq_left lX];omega
   rw [e2,e,lH];simpa [total,aK] using this
  go_wp2_with fail;have M5:(ix:Int)≤(ix:Int)+1:=by omega
  have LY:(ix:Int)≤(cap:Int):=by omega
  have aP:=yN (dY aJ.o);refine cP (fun W:World=>W.cell? ⟨pb,0,yO⟩=yP (yA p.1)∧W.cell? ⟨pb,1,yO⟩=yP (yA p.2)) 8 9 ⟨b0,b1⟩ fun HS=>?_;clear b0 b1 aJ;generalize w1.drew=wd at *;refine tM 0 HS ?_;refine tM 1 HS ?_;refine tM 2 HS ?_;refine lM 3 HS ?_;refine tM 5 HS ?_;go_frame;refine oM 4 fun K hK=>?_;go_simp;have aA:=aZ wd (yL #[yA p.1,yA p.2] 52);have iG:=yN (bM wd (yL #[yA p.1,yA p.2] 52));have aF:=yN (aD bL aA HS.o);have eX:=yN (aB aP.o aA);refine hK _ _ (.inr aF.o) ?_;clear hK K HS aP aA;generalize wd.alloc _=wv at *;generalize wd.heap.size=vb at *;refine oM 6 fun K hK=>?_;go_simp;have aA:=aZ wv (yL #[yC (yP ⟨g,0,yO⟩) ix cap,yC (yP ⟨vb,0,yO⟩) 1 1,yC (yP ⟨g,ix*2,yO⟩) (n-ix) (cap-ix)] 27);have iN:=yN (bM wv (yL #[yC (yP ⟨g,0,yO⟩) ix cap,yC (yP ⟨vb,0,yO⟩) 1 1,yC (yP ⟨g,ix*2,yO⟩) (n-ix) (cap-ix)] 27));have gJ:=yN (aD bL aA aF.o);have dE:=yN (aB eX.o aA);have sH:=yN ((aA.block _ (yo.1 iG.o).1).trans iG.o);refine hK _ _ (.inr gJ.o) ?_;clear hK K aF eX iG aA;generalize wv.alloc _=wp at *;generalize wv.heap.size=qb at *;refine oM 7 fun K hK=>?_;go_simp;refine (C4 qb 3 [(yC (yP ⟨g,0,yO⟩) ix cap,ix,aK (l.take ix)),(yC (yP ⟨vb,0,yO⟩) 1 1,1,[yA p.1,yA p.2]),(yC (yP ⟨g,ix*2,yO⟩) (n-ix) (cap-ix),n-ix,aK (l.drop (ix)))] wp rfl (by decide) ?_ ?_ ?_).mono ?_
  ·intro j q hj
   match j,hj with
   | 0,hj=>cases hj;exact aG iN.o rfl
   | 1,hj=>cases hj;exact aG iN.o rfl
   | 2,hj=>cases hj;exact aG iN.o rfl
  ·intro q hq;have pH:=dE.o;simp only [yx,zc,or_false] at hq;rcases hq with rfl | rfl | rfl
   ·exact F9 (bT HO.o pH) HN.o lX
   ·exact J8 sH.o
   exact VE (bT HO.o pH) HN.o ix _
  ·show (yC (yP ⟨g,0,yO⟩) ix cap,ix,aK (l.take ix)).2.1+(1+((yC (yP ⟨g,ix*2,yO⟩) (n-ix) (cap-ix),n-ix,aK (l.drop (ix))).2.1+0))≤1000000;simp only [];omega
  rintro e w9 ⟨v9,rfl,sI,eZ⟩;have fG:=yN (aD bL eZ gJ.o);have pI:=yN (dG sI dE.o.size);have eO:=yN (aB dE.o eZ);refine hK _ _ (.inr fG.o) ?_;clear hK K gJ dE sI eZ;refine oM 8 fun K hK=>?_;go_simp;refine hK _ _ aX ?_;clear hK K;refine cM ?_;go_wp2;go_ret;refine⟨v9,rfl,?_,eO.o⟩;have:=pI.o;have e:fL l p=l.take ix++p::l.drop (ix):=by rw [KD,← HX.o.1,← HX.o.2];simp
  have e2:(fL l p).length=ix+(1+(n-(ix)+0)):=by
   rw [e,yy,ze,zh,zg,← HN.o,Nat.min_eq_left lX];omega
  rw [e2,e,lH];simpa [total,aK] using this
theorem a0J (p:Pr) (w:World) :
  Calls yM 354 #[yC yO 0 0,yF #[yA p.1,yA p.2]] w fun e w'=>∃ v,e = .returned v∧w'.ownsRow w.heap.size 52 2 v (fL [] p).length (aK (fL [] p))∧Kept w w':=by
 go_enter func354,ntmps354;go_wp2_with fail;obtain⟨bF,hb0⟩:=aW w (yL #[yA p.1,yA p.2] 52);have bG:=yN bF;have gI:=yN hb0;clear bF hb0;obtain⟨pb,kU⟩:∃ pb,pb=w.heap.size:=⟨_,rfl⟩;have HPB:=yN kU;rw [← kU] at gI ⊢;clear kU;generalize w.alloc _=w0 at *;refine (J7 _ 0 p.1 [] _ G0 rfl (by omega) List.Pairwise.nil).mono ?_;rw [show eR [] p.1=0 by unfold eR;rfl,show eL [] p.1=false by unfold eL;rfl];rintro e w1 ⟨rfl,aS⟩;have aJ:=yN (aB bG.o aS);have b0:w1.cell? ⟨pb,0,yO⟩=yP (yA p.1):=aS.cell (aG gI.o rfl);have b1:w1.cell? ⟨pb,1,yO⟩=yP (yA p.2):=aS.cell (aG gI.o rfl);clear aS;go_wp2_with fail;have aP:=yN (dY aJ.o);refine cP (fun W:World=>W.cell? ⟨pb,0,yO⟩=yP (yA p.1)∧W.cell? ⟨pb,1,yO⟩=yP (yA p.2)) 8 9 ⟨b0,b1⟩ fun HS=>?_;clear b0 b1 aJ;generalize w1.drew=wd at *;refine tM 0 HS ?_;refine tM 1 HS ?_;refine tM 2 HS ?_;refine lM 3 HS ?_;refine tM 5 HS ?_;go_frame;refine oM 4 fun K hK=>?_;go_simp;have aA:=aZ wd (yL #[yA p.1,yA p.2] 52);have iG:=yN (bM wd (yL #[yA p.1,yA p.2] 52));have aF:=yN (aD bL aA HS.o);have eX:=yN (aB aP.o aA);refine hK _ _ (.inr aF.o) ?_;clear hK K HS aP aA;generalize wd.alloc _=wv at *;generalize wd.heap.size=vb at *;refine oM 6 fun K hK=>?_;go_simp;have aA:=aZ wv (yL #[yC yO 0 0,yC (yP ⟨vb,0,yO⟩) 1 1,yC yO 0 0] 27);have iN:=yN (bM wv (yL #[yC yO 0 0,yC (yP ⟨vb,0,yO⟩) 1 1,yC yO 0 0] 27));have gJ:=yN (aD bL aA aF.o);have dE:=yN (aB eX.o aA);have sH:=yN ((aA.block _ (yo.1 iG.o).1).trans iG.o);refine hK _ _ (.inr gJ.o) ?_;clear hK K aF eX iG aA;generalize wv.alloc _=wp at *;generalize wv.heap.size=qb at *;refine oM 7 fun K hK=>?_;go_simp;refine (C4 qb 3 [(yC yO 0 0,0,[]),(yC (yP ⟨vb,0,yO⟩) 1 1,1,[yA p.1,yA p.2]),(yC yO 0 0,0,[])] wp rfl (by decide) ?_ ?_ ?_).mono ?_
 ·intro j q hj
  match j,hj with
  | 0,hj=>cases hj;exact aG iN.o rfl
  | 1,hj=>cases hj;exact aG iN.o rfl
  | 2,hj=>cases hj;exact aG iN.o rfl
 ·intro q hq;have pH:=dE.o;simp only [yx,zc,or_false] at hq;rcases hq with rfl | rfl | rfl
  ·exact aFX
  ·exact J8 sH.o
  exact aFX
 ·show (yC yO 0 0,0,[]).2.1+(1+((yC yO 0 0,0,[]).2.1+0))≤1000000;simp only [];omega
 rintro e w9 ⟨v9,rfl,sI,eZ⟩;have fG:=yN (aD bL eZ gJ.o);have pI:=yN (dG sI dE.o.size);have eO:=yN (aB dE.o eZ);refine hK _ _ (.inr fG.o) ?_;clear hK K gJ dE sI eZ;refine oM 8 fun K hK=>?_;go_simp;refine hK _ _ aX ?_;clear hK K;refine cM ?_;go_wp2;go_ret;exact⟨v9,rfl,pI.o,eO.o⟩
theorem a0K (v:Value) (n B:Nat) (p:Pr) (l:List Pr) (w:World) (h:w.ownsRow B 52 2 v n (aK l)) (hb:n≤100000) (hr:bR l) :
  Calls yM 354 #[v,yF #[yA p.1,yA p.2]] w fun e w'=>∃ v,e = .returned v∧w'.ownsRow w.heap.size 52 2 v (fL l p).length (aK (fL l p))∧Kept w w':=by
 have hn:n=l.length:=by have:=h.1;rw [lG] at this;omega
 rcases h.2 with ⟨rfl,e⟩ | ⟨g,cap,cur,rfl,_,_,h3,_⟩
 ·have e':l=[]:=List.eq_nil_of_length_eq_zero (by omega);subst e';exact a0J p w
 exact aX0 g n cap p l B w h hn hb h3 hr
theorem aUN (g n cap:Nat) (k:Key) (l:List Pr) (B:Nat) (w:World) (h:w.ownsRow B 52 2 (yC (yP ⟨g,0,yO⟩) n cap) n (aK l)) (hn:n=l.length) (hb:n≤100000) (iE:n≤cap) (hr:bR l) :
  Calls yM 361 #[yC (yP ⟨g,0,yO⟩) n cap,yA k] w fun e w'=>∃ v,e = .returned v∧w'.ownsRow w.heap.size 52 2 v (jY l k).length (aK (jY l k))∧Kept w w':=by
 have HO:=yN h;have HR:=yN hr;have HN:=yN hn;have lX:=XE l k;rw [← hn] at lX;obtain⟨ix,DZ⟩:∃ ix,ix=eR l k:=⟨_,rfl⟩;obtain⟨ok,mY⟩:∃ ok,ok=eL l k:=⟨_,rfl⟩;rw [← DZ] at lX;have HX:=yN (yd DZ mY);have YU:ok=true→ix<n:=fun e=>by
  rw [mY] at e;obtain⟨q,hq,_⟩:=(GZ l k).1 e;rw [DZ,hn];exact (List.getElem?_eq_some_iff.1 hq).1
 have HIX:=yN YU;clear h hr hn DZ mY YU;go_enter func361,ntmps361;go_wp2_with fail;refine (J7 _ n k l _ (dH HO.o) HN.o (by omega) HR.o).mono ?_;rw [← HX.o.1,← HX.o.2];rintro e w1 ⟨rfl,aS⟩;have aJ:=yN aS;clear aS;cases ok with
 | true=>
  have hlt:=HIX.o rfl;have bG0:(0:Int)≤(ix:Int)+1:=by omega
  have a7F:(ix:Int)+1≤(n:Int):=by omega
  have xI:((ix:Int)+1).toNat=ix+1:=by omega
  have hw:yH.wrap ((ix:Int)+1)=(ix:Int)+1:=by rw [zk];omega
  have hw':wrap64 ((ix:Int)+1)=(ix:Int)+1:=by unfold wrap64;omega
  by_cases hc:cap=ix+1
  ·go_wp2_with fail;have aP:=yN (dY aJ.o);have M5:(ix:Int)≤(ix:Int)+1:=by omega
   have LY:(ix:Int)≤(cap:Int):=by omega
   clear aJ;refine JP (fun _:World=>True) 9 10 (by kernel_rfl) (by kernel_rfl) ?_;generalize w1.drew=wd at *;refine fF 0 (.inr trivial) (h:=?_);refine fF 1 (.inr trivial) (h:=?_);refine fF 2 (.inr trivial) (h:=?_);refine fF 3 (.inr trivial) (h:=?_);refine fF 4 (.inr trivial) (h:=?_);refine fF 5 (.inr trivial) (h:=?_);refine fF 6 (.inr trivial) (h:=?_);go_frame;refine oM 7 fun K hK=>?_;go_simp;have aA:=aZ wd (yL #[yC (yP ⟨g,0,yO⟩) ix (ix+1),yC (yP ⟨g,0,yO⟩) (n-(ix+1)) 0] 27);have iN:=yN (bM wd (yL #[yC (yP ⟨g,0,yO⟩) ix (ix+1),yC (yP ⟨g,0,yO⟩) (n-(ix+1)) 0] 27));have dE:=yN (aB aP.o aA);refine hK _ _ (.inr trivial) ?_;clear hK K aP aA;generalize wd.alloc _=wp at *;generalize wd.heap.size=qb at *;refine oM 8 fun K hK=>?_;go_simp;refine (C4 qb 2 [(yC (yP ⟨g,0,yO⟩) ix (ix+1),ix,aK (l.take ix)),(yC (yP ⟨g,0,yO⟩) (n-(ix+1)) 0,n-(ix+1),aK (l.drop (ix+1)))] wp rfl (by decide) ?_ ?_ ?_).mono ?_
   ·intro j q hj
    match j,hj with
    | 0,hj=>cases hj;exact aG iN.o rfl
    | 1,hj=>cases hj;exact aG iN.o rfl
   ·intro q hq;have pH:=dE.o;simp only [yx,zc,or_false] at hq;rcases hq with rfl | rfl
    ·exact (by have:=F9 (ix:=ix) (bT HO.o pH) HN.o lX;rw [hc] at this;exact this)
    exact VT _ _ HN.o (by omega)
   ·show (yC (yP ⟨g,0,yO⟩) ix (ix+1),ix,aK (l.take ix)).2.1+((yC (yP ⟨g,0,yO⟩) (n-(ix+1)) 0,n-(ix+1),aK (l.drop (ix+1))).2.1+0)≤1000000;simp only [];omega
   rintro e w9 ⟨v9,rfl,sI,eZ⟩;have pI:=yN (dG sI dE.o.size);have eO:=yN (aB dE.o eZ);refine hK _ _ (.inr trivial) ?_;clear hK K dE sI eZ;refine oM 9 fun K hK=>?_;go_simp;refine hK _ _ aX ?_;clear hK K;refine cM ?_;go_wp2;go_ret;refine⟨v9,rfl,?_,eO.o⟩;have:=pI.o;have e:jY l k=l.take ix++l.drop (ix+1):=by rw [aGW l k HX.o.2.symm,← HX.o.1]
   have e2:(jY l k).length=ix+(n-(ix+1)+0):=by
    rw [e,yy,ze,zg,← HN.o,Nat.min_eq_left lX];omega
   rw [e2,e,lH];simpa [total,aK] using this
  go_wp2_with fail;have aP:=yN (dY aJ.o);have M5:(ix:Int)≤(ix:Int)+1:=by omega
  have LY:(ix:Int)≤(cap:Int):=by omega
  clear aJ;refine JP (fun _:World=>True) 9 10 (by kernel_rfl) (by kernel_rfl) ?_;generalize w1.drew=wd at *;refine fF 0 (.inr trivial) (h:=?_);refine fF 1 (.inr trivial) (h:=?_);refine fF 2 (.inr trivial) (h:=?_);refine fF 3 (.inr trivial) (h:=?_);refine fF 4 (.inr trivial) (h:=?_);refine fF 5 (.inr trivial) (h:=?_);refine fF 6 (.inr trivial) (h:=?_);go_frame;refine oM 7 fun K hK=>?_;go_simp;have aA:=aZ wd (yL #[yC (yP ⟨g,0,yO⟩) ix cap,yC (yP ⟨g,(ix+1)*2,yO⟩) (n-(ix+1)) (cap-(ix+1))] 27);have iN:=yN (bM wd (yL #[yC (yP ⟨g,0,yO⟩) ix cap,yC (yP ⟨g,(ix+1)*2,yO⟩) (n-(ix+1)) (cap-(ix+1))] 27));have dE:=yN (aB aP.o aA);refine hK _ _ (.inr trivial) ?_;clear hK K aP aA;generalize wd.alloc _=wp at *;generalize wd.heap.size=qb at *;refine oM 8 fun K hK=>?_;go_simp;refine (C4 qb 2 [(yC (yP ⟨g,0,yO⟩) ix cap,ix,aK (l.take ix)),(yC (yP ⟨g,(ix+1)*2,yO⟩) (n-(ix+1)) (cap-(ix+1)),n-(ix+1),aK (l.drop (ix+1)))] wp rfl (by decide) ?_ ?_ ?_).mono ?_
  ·intro j q hj
   match j,hj with
   | 0,hj=>cases hj;exact aG iN.o rfl
   | 1,hj=>cases hj;exact aG iN.o rfl
  ·intro q hq;have pH:=dE.o;simp only [yx,zc,or_false] at hq;rcases hq with rfl | rfl
   ·exact F9 (bT HO.o pH) HN.o lX
   exact VE (bT HO.o pH) HN.o (ix+1) _
  ·show (yC (yP ⟨g,0,yO⟩) ix cap,ix,aK (l.take ix)).2.1+((yC (yP ⟨g,(ix+1)*2,yO⟩) (n-(ix+1)) (cap-(ix+1)),n-(ix+1),aK (l.drop (ix+1))).2.1+0)≤1000000;simp only [];omega
  rintro e w9 ⟨v9,rfl,sI,eZ⟩;have pI:=yN (dG sI dE.o.size);have eO:=yN (aB dE.o eZ);refine hK _ _ (.inr trivial) ?_;clear hK K dE sI eZ;refine oM 9 fun K hK=>?_;go_simp;refine hK _ _ aX ?_;clear hK K;refine cM ?_;go_wp2;go_ret;refine⟨v9,rfl,?_,eO.o⟩;have:=pI.o;have e:jY l k=l.take ix++l.drop (ix+1):=by rw [aGW l k HX.o.2.symm,← HX.o.1]
  have e2:(jY l k).length=ix+(n-(ix+1)+0):=by
   rw [e,yy,ze,zg,← HN.o,Nat.min_eq_left lX];omega
  rw [e2,e,lH];simpa [total,aK] using this
 | false=>
  go_wp2_with fail;refine (KF _ _ _ _ (dH (bT HO.o aJ.o)) (by rw [lG,HN.o]) (by omega) (nQ _)).mono ?_;rintro e w2 ⟨v2,rfl,cI,hk2⟩;have dZ:=yN (dG cI aJ.o.size);have aH:=yN (aB aJ.o hk2);clear cI hk2;go_wp2;go_ret;refine⟨v2,rfl,?_,aH.o⟩;rw [aXG l k HX.o.2.symm,← HN.o];exact dZ.o
theorem aX1 (k:Key) (w:World) :
  Calls yM 361 #[yC yO 0 0,yA k] w fun e w'=>∃ v,e = .returned v∧w'.ownsRow w.heap.size 52 2 v 0 []∧Kept w w':=by
 go_enter func361,ntmps361;go_wp2_with fail;refine (J7 _ 0 k [] _ G0 rfl (by omega) List.Pairwise.nil).mono ?_;rw [show eR [] k=0 by unfold eR;rfl,show eL [] k=false by unfold eL;rfl];rintro e w1 ⟨rfl,aS⟩;have aJ:=yN aS;clear aS;go_wp2_with fail;refine (KF _ 0 [] _ G0 rfl (by omega) (by intro u hu;cases hu)).mono ?_;rintro e w2 ⟨v2,rfl,cI,hk2⟩;have dZ:=yN (dG cI aJ.o.size);have aH:=yN (aB aJ.o hk2);clear cI hk2;go_wp2;go_ret;exact⟨v2,rfl,dZ.o,aH.o⟩
theorem aX2 (v:Value) (n B:Nat) (k:Key) (l:List Pr) (w:World) (h:w.ownsRow B 52 2 v n (aK l)) (hb:n≤100000) (hr:bR l) :
  Calls yM 361 #[v,yA k] w fun e w'=>∃ v,e = .returned v∧w'.ownsRow w.heap.size 52 2 v (jY l k).length (aK (jY l k))∧Kept w w':=by
 have hn:n=l.length:=by have:=h.1;rw [lG] at this;omega
 rcases h.2 with ⟨rfl,e⟩ | ⟨g,cap,cur,rfl,_,_,h3,_⟩
 ·have e':l=[]:=List.eq_nil_of_length_eq_zero (by omega);subst e';exact aX1 k w
 exact aUN g n cap k l B w h hn hb h3 hr
end
section
theorem aE5 {w w':World} (hk:Kept w w') (r:Option Nat):w.grownBy w' r:=⟨hk.os,hk.tape,hk.output,hk.size,fun k dJ _=>hk.block k dJ⟩
theorem aIZ (b:Nat) (l:List Pr) (w:World) (h:NB w b l) (hl:l.length≤100000) :
  Calls yM 353 #[yB (yP ⟨b,0,yO⟩),yB yO] w fun e w'=>∃ c pv kv,e = .returned (yB (yP ⟨c,0,yO⟩))∧ON w.heap.size w' c 0 0 pv kv true l.length 0 (aK l) []∧Kept w w':=by
 obtain⟨pv,kv,h0,h3,h4⟩:=h;exact aIA b 0 0 _ 0 pv kv true _ [] w h0 h3 h4 (lG _) rfl (by omega) (by omega) (nQ _) (by intro u hu;cases hu)
theorem J9 (b:Nat) (p:Pr) (l:List Pr) (w:World) (h:NB w b l) (hl:l.length≤100000) (hr:bR l) :
  Calls yM 294 #[yB (yP ⟨b,0,yO⟩),yB yO,yF #[yA p.1,yA p.2]] w fun e w'=>∃ c,e = .returned (yB (yP ⟨c,0,yO⟩))∧NB w' c (fL l p)∧Kept w w':=by
 have HR:=yN hr;have HL:=yN hl;clear hr hl;go_enter func294,ntmps294;go_wp2_with fail;have bF:=aZ w (yL #[yA p.1,yA p.2] 52);have hb0:=bM w (yL #[yA p.1,yA p.2] 52);have h:=h.kept bF;have bG:=yN bF;have gI:=yN hb0;generalize kU:w.heap.size=pb at *;generalize w.alloc _=w0 at *;clear bF hb0;have H:=yN h;obtain⟨_,_,h0,_⟩:=h;refine (xA _ _ _ _ _ _ _ h0).mono ?_;rintro e w' ⟨rfl,rfl⟩;clear h0;go_wp2_with fail;refine (aIZ b l _ H.o HL.o).mono ?_;rintro e w1 ⟨c,pv,kv,rfl,dB,hk⟩;have aJ:=yN (aB bG.o hk);have b0:w1.cell? ⟨pb,0,yO⟩=yP (yA p.1):=hk.cell (aG gI.o rfl);have b1:w1.cell? ⟨pb,1,yO⟩=yP (yA p.2):=hk.cell (aG gI.o rfl);obtain⟨a,cap,rfl⟩:=bW dB.2.2.1;obtain⟨-,c0,c1,c2,c3,c4,o5,c5⟩:=id dB.na;have HO:=yN dB;clear dB hk;go_wp2_with fail;have HS:Hid ((fun W:World=>W.cell? ⟨c,2,yO⟩=yP (yC a l.length cap)∧W.cell? ⟨pb,0,yO⟩=yP (yA p.1)∧W.cell? ⟨pb,1,yO⟩=yP (yA p.2)) w1.drew):=yN ⟨c2,b0,b1⟩;have bZ:Hid (ON w0.heap.size w1.drew c 0 0 _ _ _ _ _ _ _):=yN HO.o;have aP:Hid (Kept w w1.drew):=yN (ym aJ.o);clear c0 c1 c2 c3 c4 c5 b0 b1 HO aJ;refine IM (fun W:World=>W.cell? ⟨c,2,yO⟩=yP (yC a l.length cap)∧W.cell? ⟨pb,0,yO⟩=yP (yA p.1)∧W.cell? ⟨pb,1,yO⟩=yP (yA p.2)) 11 12 ?_;generalize w1.drew=wd at *;refine tM 0 HS ?_;go_frame;refine tM 1 HS ?_;go_frame;refine tM 2 HS ?_;go_frame;refine tM 3 HS ?_;go_frame;refine tM 4 HS ?_;go_frame;refine lM 5 HS ?_;go_frame;refine lM 6 HS ?_;go_frame;refine oM 7 fun K hK=>?_;go_simp;refine (a0K _ _ _ _ l _ bZ.o.2.2.1 HL.o HR.o).mono ?_;rintro e w2 ⟨v',rfl,ho,hk⟩;have aF:=yN (yd (hk.cell HS.o.1) (yd (hk.cell HS.o.2.1) (hk.cell HS.o.2.2)));refine hK _ _ (.inr aF.o) ?_;have fE:=bZ.o.pairs (aE5 hk _) (dG ho (yf bZ.o.le (ye _)));have hb3:=(hk.block c bZ.o.lt).trans bZ.o.1;have eA:=yN fE.1;have aL:=yN (yn aP.o (Below.mono fE.2 bG.o.size));have f3:w2.frozen? ⟨c,2,yO⟩=false:=aU hb3;have e3:w2.cell? ⟨c,2,yO⟩=yP (yC a l.length cap):=aG hb3 rfl;obtain⟨av,cv,rfl⟩:=bW ho;clear hK K HS bZ aP hk ho fE hb3;refine tM 8 aF ?_;go_frame;refine tM 9 aF ?_;go_frame;refine tM 10 aF ?_;go_frame;refine oM 11 fun K hK=>?_;go_simp;refine hK _ _ (.inl (by kernel_rfl)) ?_;clear hK K;refine uX (by kernel_rfl) ?_ _;clear e3 f3;go_wp2;go_ret;exact⟨c,rfl,⟨_,_,eA.o.na,dH eA.o.2.2.1,dH eA.o.2.2.2⟩,aL.o⟩
theorem aUO (b:Nat) (k:Key) (l:List Pr) (w:World) (h:NB w b l) (hl:l.length≤100000) (hr:bR l) :
  Calls yM 300 #[yB (yP ⟨b,0,yO⟩),yB yO,yA k] w fun e w'=>∃ c,e = .returned (yB (yP ⟨c,0,yO⟩))∧NB w' c (jY l k)∧Kept w w':=by
 have HR:=yN hr;have HL:=yN hl;clear hr hl;have bG:Hid (Kept w w):=yN (yk _ w);have H:=yN h;obtain⟨_,_,h0,_⟩:=h;go_enter func300,ntmps300;go_wp2_with fail;refine (xA _ _ _ _ _ _ _ h0).mono ?_;rintro e w' ⟨rfl,rfl⟩;clear h0;go_wp2_with fail;refine (aIZ b l _ H.o HL.o).mono ?_;rintro e w1 ⟨c,pv,kv,rfl,dB,hk⟩;have aJ:=yN (aB bG.o hk);obtain⟨a,cap,rfl⟩:=bW dB.2.2.1;obtain⟨-,c0,c1,c2,c3,c4,o5,c5⟩:=id dB.na;have HO:=yN dB;clear dB hk;go_wp2_with fail;refine (aX2 _ _ _ _ l _ HO.o.2.2.1 HL.o HR.o).mono ?_;rintro e w2 ⟨v',rfl,ho,hk⟩;have fE:=HO.o.pairs (aE5 hk _) (dG ho (yf HO.o.le (ye _)));have hb3:=(hk.block c HO.o.lt).trans HO.o.1;have eA:=yN fE.1;have aL:=yN (yn aJ.o (Below.mono fE.2 bG.o.size));have f3:w2.frozen? ⟨c,2,yO⟩=false:=aU hb3;have e3:w2.cell? ⟨c,2,yO⟩=yP (yC a l.length cap):=aG hb3 rfl;obtain⟨av,cv,rfl⟩:=bW ho;clear hk ho fE hb3 c0 c1 c2 c3 c4 c5;go_wp2;go_ret;exact⟨c,rfl,⟨_,_,eA.o.na,dH eA.o.2.2.1,dH eA.o.2.2.2⟩,aL.o⟩
end
section
variable {lV:List Value} {w1:World}
def OR (B:Nat) (w:World) (c:Nat) (lab:Key) (has:Bool) (val:Key) (kv:Value) (nk:Nat) (ks:List Value):Prop:=
 w.heap[c]?=yP (yL #[yA lab,yD has,yA val,kv,yB yO] 345 (0,0))∧B≤c∧w.ownsRow B 177 1 kv nk ks
section
variable {B:Nat} {w:World} {c:Nat} {lab val:Key} {has:Bool} {kv:Value} {nk:Nat} {ks:List Value}
theorem OR.lt (h:OR B w c lab has val kv nk ks):c<w.heap.size:=(yo.1 h.1).1
theorem OR.le (h:OR B w c lab has val kv nk ks):B≤w.heap.size:=yf h.2.1 (Nat.le_of_lt h.lt)
theorem OR.nr (h:OR B w c lab has val kv nk ks):NR w c lab has val kv:=⟨⟨XH h.2.2,_,_,h.1⟩,aG h.1 rfl,aG h.1 rfl,aG h.1 rfl,aG h.1 rfl,_,aG h.1 rfl⟩
theorem OR.fz (h:OR B w c lab has val kv nk ks) (j:Nat):w.frozen? ⟨c,j,yO⟩=false:=aU h.1
theorem OR.ne (h:OR B w c lab has val kv nk ks):kv.ownBlock≠yP c:=fR h.2.2 h.1 (by decide)
theorem OR.rd (h:OR B w c lab has val kv nk ks):Rd w kv nk ks:=dH h.2.2
theorem OR.kept {w':World} (h:OR B w c lab has val kv nk ks) (hk:Kept w w'):OR B w' c lab has val kv nk ks:=⟨(hk.block c h.lt).trans h.1,h.2.1,bT h.2.2 hk⟩
theorem OR.turn (h:OR B w c lab has val kv nk ks) (o:Nat) (v:Value) {cs':Array Value} (hc:(#[yA lab,yD has,yA val,kv,yB yO]:Array Value).setIfInBounds o v=cs') :
  (w.setCell ⟨c,o,yO⟩ v).heap[c]?=yP (yL cs' 345 (0,0))∧(w.setCell ⟨c,o,yO⟩ v).ownsRow B 177 1 kv nk ks∧Below B w (w.setCell ⟨c,o,yO⟩ v):=by
 have h2:=heap_setCell (o:=o) (v:=v) h.1;rw [hc] at h2;have hs:∀ (g:Nat),yP c≠yP g→(w.setCell ⟨c,o,yO⟩ v).heap[g]?=w.heap[g]?:=fun g hne=>yl _ _ _ _ (fun e=>hne (by rw [e]));exact⟨h2,cF h.2.2 fun g cS=>hs g (fun e=>h.ne (cS.trans e.symm)),(yk _ _).setCell h.2.1 _⟩
theorem OR.fT (h:OR B w c lab has val kv nk ks) (l:Key):OR B (w.setCell ⟨c,0,yO⟩ (yA l)) c l has val kv nk ks∧Below B w (w.setCell ⟨c,0,yO⟩ (yA l)):=
 let ⟨a,b,e⟩:=h.turn 0 (yA l) rfl;⟨⟨a,h.2.1,b⟩,e⟩
theorem OR.aKM (h:OR B w c lab has val kv nk ks) (x:Bool):OR B (w.setCell ⟨c,1,yO⟩ (yD x)) c lab x val kv nk ks∧Below B w (w.setCell ⟨c,1,yO⟩ (yD x)):=
 let ⟨a,b,e⟩:=h.turn 1 (yD x) rfl;⟨⟨a,h.2.1,b⟩,e⟩
theorem OR.aKN (h:OR B w c lab has val kv nk ks) (l:Key):OR B (w.setCell ⟨c,2,yO⟩ (yA l)) c lab has l kv nk ks∧Below B w (w.setCell ⟨c,2,yO⟩ (yA l)):=
 let ⟨a,b,e⟩:=h.turn 2 (yA l) rfl;⟨⟨a,h.2.1,b⟩,e⟩
theorem OR.kids (h:OR B w c lab has val kv nk ks) (hg:w.grownBy w1 kv.ownBlock) {bX:Value} {MZ:Nat} (ho:w1.ownsRow B 177 1 bX MZ lV) :
  OR B (w1.setCell ⟨c,3,yO⟩ bX) c lab has val bX MZ lV∧Below B w (w1.setCell ⟨c,3,yO⟩ bX):=by
 have h1:w1.heap[c]?=yP (yL #[yA lab,yD has,yA val,kv,yB yO] 345 (0,0)):=by rw [hg.block c h.lt (fun e=>h.ne e.symm)];exact h.1
 have h2:=heap_setCell (o:=3) (v:=bX) h1;simp only [yp,yu,yv] at h2;have hs:∀ (g:Nat),yP c≠yP g→(w1.setCell ⟨c,3,yO⟩ bX).heap[g]?=w1.heap[g]?:=fun g hne=>yl _ _ _ _ (fun e=>hne (by rw [e]));exact⟨⟨h2,h.2.1,cF ho fun g cS=>hs g (fun e=>fR ho h1 (by decide) (cS.trans e.symm))⟩,(F8 h.2.2 hg h.le).setCell h.2.1 _⟩
theorem OR.row (h:OR B w c lab has val kv nk ks) (hg:w.grownBy w1 kv.ownBlock) (ho:w1.ownsRow B 177 1 kv nk lV):OR B w1 c lab has val kv nk lV∧Below B w w1:=by
 have h1:w1.heap[c]?=yP (yL #[yA lab,yD has,yA val,kv,yB yO] 345 (0,0)):=by rw [hg.block c h.lt (fun e=>h.ne e.symm)];exact h.1
 exact⟨⟨h1,h.2.1,ho⟩,F8 h.2.2 hg h.le⟩
end
theorem aSF (b:Nat) (lab val:Key) (has:Bool) (kv:Value) (w:World) (h:NR w b lab has val kv) :
  Calls yM 346 #[yB (yP ⟨b,0,yO⟩),yB yO] w fun e w'=>e = .returned (yD false)∧w=w':=by
 go_enter func346,ntmps346;go_wp2_with (go_at_call 274;refine (QW _).mono ?_;rintro e w' ⟨rfl,rfl⟩);all_goals go_ret
 all_goals exact⟨rfl,rfl⟩
theorem YV (b nk:Nat) (lab val:Key) (has:Bool) (kv:Value) (ks:List Value) (w:World) (h:NR w b lab has val kv) (hk:Rd w kv nk ks) (hl:ks.length=nk*1) (hn:nk≤1000000) (h1:∀ u∈ks,u.oneCell'=true) :
  Calls yM 287 #[yB (yP ⟨b,0,yO⟩),yB yO] w fun e w'=>∃ c bX,e = .returned (yB (yP ⟨c,0,yO⟩))∧OR w.heap.size w' c lab has val bX nk ks∧Kept w w':=by
 obtain⟨-,c0,c1,c2,c3,o,c4⟩:=id h;obtain⟨a,cap,rfl⟩:=hk.shape;have HP:=yN hk;have H1:=yN h1;have hbl:=mU c0;go_enter func287,ntmps287;go_wp2_with fail;refine (aSF _ _ _ _ _ _ h).mono ?_;rintro e w' ⟨rfl,rfl⟩;have aS:=aZ w (yL #[yA lab,yD has,yA val,yC a nk cap,.pointer o] 345);have d3:=aS.cell c3;have hb1:=bM w (yL #[yA lab,yD has,yA val,yC a nk cap,.pointer o] 345);have aJ:=yN aS;have pJ:=yN hb1;go_wp2_with fail;generalize aQ:w.heap.size=rb at *;generalize w.alloc _=w1 at *;refine (aH8 _ _ _ _ (HP.o.kept aJ.o) hl hn H1.o).mono ?_;rintro e w2 ⟨v,rfl,ho,hk2⟩;have hb2:=(hk2.block rb (yo.1 pJ.o).1).trans pJ.o;have e3:w2.cell? ⟨rb,3,yO⟩=yP (yC a nk cap):=aG hb2 rfl;have e4:w2.cell? ⟨rb,4,yO⟩=yP (.pointer o):=aG hb2 rfl;have f3:w2.frozen? ⟨rb,3,yO⟩=false:=aU hb2;have f4:w2.frozen? ⟨rb,4,yO⟩=false:=aU hb2;obtain⟨av,cv,rfl⟩:=bW ho;have mM:=yN hb2;have hle:rb≤w1.heap.size:=by rw [← aQ];exact aJ.o.size
 have HO:=yN (dG ho hle);have aH:=yN (aB aJ.o hk2);go_wp2_with fail;refine (QW _).mono ?_;rintro e w' ⟨rfl,rfl⟩;go_wp2;go_ret;subst aQ;have hh:=heap_setCell (o:=4) (v:=yB yO) (heap_setCell (o:=3) (v:=yC av nk cv) mM.o);refine⟨_,_,rfl,⟨hh,ye _,cF HO.o fun g hg=>?_⟩,Below.setCell (Below.setCell aH.o (ye _) _) (ye _) _⟩;have hne:g≠w.heap.size:=fun e=>fR HO.o mM.o (by decide) (hg.trans (by rw [e]));rw [yl _ _ _ _ hne,yl _ _ _ _ hne]
theorem QE (B c:Nat) (lab l val:Key) (has:Bool) (kv:Value) (nk:Nat) (ks:List Value) (w:World) (h:OR B w c lab has val kv nk ks) :
  Calls yM 349 #[yB (yP ⟨c,0,yO⟩),yA l] w fun e w'=>e = .returned (yB (yP ⟨c,0,yO⟩))∧OR B w' c l has val kv nk ks∧Below B w w':=by
 have c0:=h.nr.c0;have f0:=h.fz 0;have H:=yN (h.fT l);go_enter func349,ntmps349;go_wp2;go_ret;exact⟨rfl,H.o⟩
theorem U2 (B c:Nat) (lab l val:Key) (has:Bool) (kv:Value) (nk:Nat) (ks:List Value) (w:World) (h:OR B w c lab has val kv nk ks) :
  Calls yM 288 #[yB (yP ⟨c,0,yO⟩),yA l] w fun e w'=>e = .returned (yB (yP ⟨c,0,yO⟩))∧OR B w' c lab true l kv nk ks∧Below B w w':=by
 have c1:=h.nr.c1;have f1:=h.fz 1;have c2:=h.nr.c2;have f2:=h.fz 2;have h1:=h.aKM true;have h2:=h1.1.aKN l;have H:=yN (yd h2.1 (h1.2.trans h2.2));go_enter func288,ntmps288;go_wp2;go_ret;exact⟨rfl,H.o⟩
theorem aUP (label value:Key) (w:World) :
  Calls yM 290 #[yB yO,yA label,yA value] w fun e w'=>∃ c kv,e = .returned (yB (yP ⟨c,0,yO⟩))∧OR w.heap.size w' c label true value kv 0 []∧Kept w w':=by
 obtain⟨aS,hb1⟩:=aW w (yL #[yA ⟨#[]⟩,yD false,yA ⟨#[]⟩,yC yO 0 0,yB yO] 345);have aJ:=yN aS;have pJ:=yN hb1;go_enter func290,ntmps290;go_wp2_with fail;generalize aQ:w.heap.size=rb at *;generalize w.alloc _=w1 at *;refine (YV rb 0 ⟨#[]⟩ ⟨#[]⟩ false (yC yO 0 0) [] _ ⟨⟨DJ _ _,_,_,pJ.o⟩,aG pJ.o rfl,aG pJ.o rfl,aG pJ.o rfl,aG pJ.o rfl,_,aG pJ.o rfl⟩ G0 rfl (by omega) (by intro u hu;cases hu)).mono ?_;rintro e w2 ⟨c,kv,rfl,ho,hk⟩;have hle:rb≤w1.heap.size:=by rw [← aQ];exact aJ.o.size
 have HO:=yN ho;have HK:=yN (aB aJ.o hk);go_wp2_with fail;refine (QE _ c _ label _ _ _ _ _ _ HO.o).mono ?_;rintro e w3 ⟨rfl,ho,hk⟩;have fX:=yN ho;have aL:=yN (yn HK.o (Below.mono hk (by rw [aQ];exact hle)));go_wp2_with fail;refine (U2 _ c _ value _ _ _ _ _ _ fX.o).mono ?_;rintro e w4 ⟨rfl,ho,hk⟩;have lY:=yN ho;have aR:=yN (yn aL.o (Below.mono hk (by rw [aQ];exact hle)));go_wp2;go_ret;subst aQ;exact⟨c,kv,rfl,⟨lY.o.1,yf hle lY.o.2.1,dG lY.o.2.2 hle⟩,aR.o⟩
theorem wX (b:Nat) (lab val:Key) (has:Bool) (kv:Value) (w:World) (h:NR w b lab has val kv) :
  Calls yM 258 #[yB (yP ⟨b,0,yO⟩)] w fun e w'=>e = .returned (yA lab)∧w=w':=by
 have c0:=h.c0;go_enter func258,ntmps258;go_wp2;go_ret;exact⟨rfl,rfl⟩
theorem QF (b:Nat) (lab val:Key) (has:Bool) (kv:Value) (w:World) (h:NR w b lab has val kv) :
  Calls yM 250 #[yB (yP ⟨b,0,yO⟩)] w fun e w'=>e = .returned (.tuple #[yA val,yD has])∧∃ q,w'=w.drewN q:=by
 have c1:=h.c1;have c2:=h.c2;go_enter func250,ntmps250;go_wp2;go_region;go_wp2;go_ret2;exact⟨rfl,1,rfl⟩
theorem Q0 (b nk:Nat) (lab val:Key) (has:Bool) (kv:Value) (ks:List Value) (w:World) (h:NR w b lab has val kv) (hp:Rd w kv nk ks) (hl:ks.length=nk*1) (hn:nk≤1000000) (h1:∀ u∈ks,u.oneCell'=true) :
  Calls yM 262 #[yB (yP ⟨b,0,yO⟩)] w fun e w'=>∃ v,e = .returned v∧w'.ownsRow w.heap.size 177 1 v nk ks∧Kept w w':=by
 have c3:=h.c3;obtain⟨a,cap,rfl⟩:=hp.shape;have HP:=yN hp;have H1:=yN h1;go_enter func262,ntmps262;go_wp2_with fail;refine (aH8 _ _ _ _ HP.o hl hn H1.o).mono ?_;rintro e w1 ⟨v,rfl,ho,hk⟩;have HO:=yN ho;have HK:=yN hk;go_wp2;go_ret;exact⟨v,rfl,HO.o,HK.o⟩
theorem a27 (w:World):Calls yM 224 #[] w fun e w'=>∃ c,e = .returned (yB (yP ⟨c,0,yO⟩))∧(∀ d,RR w' d c yj none_)∧Kept w w':=by
 go_enter func224,ntmps224;go_wp2;go_ret;have hb:=bM w (yL #[yA ⟨#[]⟩,yD false,yA ⟨#[]⟩,yC yO 0 0,yB yO] 345);exact⟨_,rfl,fun d=>.mk d _ _ false _ _ [] none_ ⟨⟨DJ _ _,_,_,hb⟩,aG hb rfl,aG hb rfl,aG hb rfl,aG hb rfl,_,aG hb rfl⟩ G0 (fun _=>rfl) (by simp) List.Pairwise.nil (by simp) aXB (by simp),(yk _ w).alloc (ye _) _⟩
theorem X4 (b:Nat) (w:World):Calls yM 226 #[yB (yP ⟨b,0,yO⟩)] w fun e w'=>e = .returned (yB (yP ⟨b,0,yO⟩))∧w=w':=by
 go_enter func226,ntmps226;go_wp2;go_ret;exact⟨rfl,rfl⟩
end
section
variable {w:World} {kv:Value}
theorem KG (a:Key) (h:0<a.size):head a=(a[0]'h).toNat:=by
 unfold head;have e:a.data.toList[0]?=yP (a[0]'h):=by
  rw [List.getElem?_eq_getElem (by rw [fA];exact h)];simp;rfl
 cases hl:a.data.toList with
 | nil=>rw [hl] at e;cases e
 | cons x l=>rw [hl] at e;simp at e;rw [e];rfl
theorem KH (a:Key):head a<256:=by unfold head;exact UInt8.toNat_lt _
theorem VF (b:Nat) (c:Nat) (lab:Key) (w:World) (hl:0<lab.size) (hc:c<256) (c0:w.cell? ⟨b,0,yO⟩=yP (yA lab)) :
  Calls yM 312 #[yB (yP ⟨b,0,yO⟩),yE yK c] w fun e w'=>e = .returned (yE yH ((head lab:Int)-c))∧w=w':=by
 have hh:=KG lab hl;obtain⟨x,hx⟩:∃ x,x=lab[0]'hl:=⟨_,rfl⟩;rw [← hx] at hh;have hlt:=x.toNat_lt;have HH:=yN hh;have HX:=yN hx;go_enter func312,ntmps312;go_wp2;go_ret;refine⟨gO ?_,rfl⟩;rw [← HX.o,HH.o];unfold wrap64;omega
structure KR (w:World) (g off:Nat) (ks:List Kd):Prop where
 cells:∀ (j:Nat) (q:Kd),ks[j]?=yP q→w.cell? ⟨g,off+j,yO⟩=yP (ptr q.b)
 labs:∀ q∈ks,w.cell? ⟨q.b,0,yO⟩=yP (yA q.lab)∧0<q.lab.size
 rise:ks.Pairwise fun p q=>head p.lab<head q.lab
def LD (ks:List Kd) (c:Nat) (w:World) (e:Ending) (w':World):Prop:=
 w=w'∧∃ l1 l2,ks=l1++l2∧(∀ q∈l1,head q.lab<c)∧((∃ q l3,l2=q::l3∧head q.lab=c∧e = .returned (.tuple #[yE yH l1.length,yD true]))∨((∀ q∈l2,c<head q.lab)∧e = .returned (.tuple #[yE yH l1.length,yD false])))
theorem aG7 {ks:List Kd} {c lo:Nat} {ok:Bool} {e:Ending} (hr:ks.Pairwise fun p q=>head p.lab<head q.lab) (B8:lo≤ks.length) (h1:∀ j q,ks[j]?=yP q→j<lo→head q.lab<c) (h2:∀ j q,ks[j]?=yP q→lo≤j→c≤head q.lab)
  (mY:ok=true↔∃ q,ks[lo]?=yP q∧head q.lab=c) (he:e = .returned (.tuple #[yE yH lo,yD ok])):LD ks c w e w:=by
 have hl:(ks.take lo).length=lo:=by rw [ze,Nat.min_eq_left B8]
 refine⟨rfl,ks.take lo,ks.drop lo,(List.take_append_drop lo ks).symm,?_,?_⟩
 ·intro q hq;obtain⟨j,hj⟩:=List.getElem?_of_mem hq;rw [List.getElem?_take] at hj
  split at hj
  ·exact h1 j q hj (by omega)
  cases hj
 rw [hl];cases ok with
 | true=>
  obtain⟨q,hq,hc⟩:=mY.1 rfl;obtain⟨h,rfl⟩:=List.getElem?_eq_some_iff.1 hq;exact .inl ⟨_,ks.drop (lo+1),List.drop_eq_getElem_cons h,hc,he⟩
 | false=>
  refine .inr ⟨fun q hq=>?_,he⟩;obtain⟨j,hj⟩:=List.getElem?_of_mem hq;rw [List.getElem?_drop] at hj;have h3:=h2 _ q hj (by omega);rcases Nat.lt_or_eq_of_le h3 with h | h
  ·exact h
  exfalso;have hlt:lo<ks.length:=by have:=(List.getElem?_eq_some_iff.1 hj).1;omega
  by_cases e0:j=0
  ·subst e0;have:false=true:=mY.2 ⟨q,hj,h.symm⟩;cases this
  obtain⟨lW,rfl⟩:=List.getElem?_eq_some_iff.1 hj;have:=List.pairwise_iff_getElem.1 hr lo (lo+j) hlt lW (by omega);have:=h2 lo _ (List.getElem?_eq_getElem hlt) (ye _);omega
theorem aQ8 (a:Option Addr) (cap c:Nat) (w:World) :
  Calls yM 311 #[yC a 0 cap,yE yK c,yG (.func 312) #[] #[]] w (LD [] c w):=by
 go_enter func311,ntmps311;go_wp2
 go_loopg [9,10] 0 (fun kx s9 cK wr=>s9=yE yH 0∧cK=yE yH 0∧wr=w)
 case atStart=>exact⟨rfl,rfl,rfl⟩
 obtain⟨rfl,rfl,rfl⟩:=hrel;go_wp2;go_ret2;exact⟨rfl,[],[],rfl,by simp,.inr ⟨by simp,rfl⟩⟩
theorem aQK (g off n cap c:Nat) (ks:List Kd) (w:World) (hn:n=ks.length) (hl:0<n) (hb:n≤1000000) (hc:c<256) (hk:KR w g off ks) :
  Calls yM 311 #[yC (yP ⟨g,off,yO⟩) n cap,yE yK c,yG (.func 312) #[] #[]] w (LD ks c w):=by
 have HK:=yN hk;have HN:=yN hn;clear hk hn;go_enter func311,ntmps311;go_wp2
 go_loopg [9,10] n (fun kx s9 cK wr=>∃ lo hi:Nat,s9=yE yH lo∧cK=yE yH hi∧lo≤hi∧hi≤n∧hi-lo≤kx∧wr=w∧
  Hid ((∀ j q,ks[j]?=yP q→j<lo→head q.lab<c)∧(∀ j q,ks[j]?=yP q→hi≤j→c≤head q.lab)))
 case atStart=>
  exact⟨0,n,rfl,rfl,yg _,ye _,by omega,rfl,yN ⟨fun j q _ h=>absurd h (Nat.not_lt_zero _),fun j q h1 h2=>by
   have:=(List.getElem?_eq_some_iff.1 h1).1;have:=HN.o;omega⟩⟩
 obtain⟨lo,hi,rfl,rfl,hlh,dI,hg,rfl,HI⟩:=hrel;by_cases hlt:lo<hi
 ·obtain⟨q,hq⟩:∃ q,ks[(lo+hi) / 2]?=yP q:=⟨ks[(lo+hi) / 2]'(by have:=HN.o;omega),List.getElem?_eq_getElem _⟩;have e1:=HK.o.cells _ q hq;obtain⟨e2,e3⟩:=HK.o.labs q (List.mem_of_getElem? hq);have HQ:=yN hq;clear hq;have E:=yN (yd e2 e3);clear e2 e3;obtain⟨hd,mZ⟩:∃ hd,hd=head q.lab:=⟨_,rfl⟩;have HD:=yN mZ;have a5A:hd<256:=by rw [mZ];exact KH _
  clear mZ;have a5B:∀ (j:Nat) (p:Kd),ks[j]?=yP p→(j<(lo+hi) / 2→head p.lab<hd)∧((lo+hi) / 2<j→hd<head p.lab):=fun j p hj=>by
   obtain⟨lW,rfl⟩:=List.getElem?_eq_some_iff.1 hj;obtain⟨mK,eY⟩:=List.getElem?_eq_some_iff.1 HQ.o;rw [HD.o,← eY];exact⟨fun h=>List.pairwise_iff_getElem.1 HK.o.rise _ _ lW mK h,fun h=>List.pairwise_iff_getElem.1 HK.o.rise _ _ mK lW h⟩
  have HM:=yN a5B;clear a5B;by_cases hx:hd<c
  ·have uI:(hd:Int)-(c:Int)<0:=by omega
   go_wp2_with fail;refine (VF q.b c q.lab _ E.o.2 hc E.o.1).mono ?_;rintro e w' ⟨rfl,rfl⟩;rw [← HD.o];go_wp2;go_roundg (hi-((lo+hi) / 2+1));case measure=>omega
   refine⟨(lo+hi) / 2+1,hi,by rw [show ((lo:Int)+(hi:Int)) / 2+1=(((lo+hi) / 2+1:Nat):Int) by omega],rfl,by omega,dI,ye _,rfl,yN ⟨fun j p hj cD=>?_,HI.o.2⟩⟩;by_cases e:j=(lo+hi) / 2;·subst e;rw [HQ.o] at hj;cases hj;rw [← HD.o];exact hx
   have:=(HM.o j p hj).1 (by omega);omega
  have uI:¬ (hd:Int)-(c:Int)<0:=by omega
  go_wp2_with fail;refine (VF q.b c q.lab _ E.o.2 hc E.o.1).mono ?_;rintro e w' ⟨rfl,rfl⟩;rw [← HD.o];go_wp2;go_roundg ((lo+hi) / 2-lo);case measure=>omega
  refine⟨lo,(lo+hi) / 2,rfl,by rw [show ((lo:Int)+(hi:Int)) / 2=(((lo+hi) / 2:Nat):Int) by omega],by omega,by omega,ye _,rfl,yN ⟨HI.o.1,fun j p hj hle=>?_⟩⟩;by_cases e:j=(lo+hi) / 2;·subst e;rw [HQ.o] at hj;cases hj;rw [← HD.o];omega
  have:=(HM.o j p hj).2 (by omega);omega
 have e0:hi=lo:=by omega
 subst e0;by_cases j7:hi<n
 ·obtain⟨q,hq⟩:∃ q,ks[hi]?=yP q:=⟨ks[hi]'(by have:=HN.o;omega),List.getElem?_eq_getElem _⟩;have e1:=HK.o.cells _ q hq;obtain⟨e2,e3⟩:=HK.o.labs q (List.mem_of_getElem? hq);have HQ:=yN hq;clear hq;have E:=yN (yd e2 e3);clear e2 e3;obtain⟨hd,mZ⟩:∃ hd,hd=head q.lab:=⟨_,rfl⟩;have HD:=yN mZ;have a5A:hd<256:=by rw [mZ];exact KH _
  clear mZ;go_wp2_with fail;refine (VF q.b c q.lab _ E.o.2 hc E.o.1).mono ?_;rintro e w' ⟨rfl,rfl⟩;rw [← HD.o];go_wp2;go_ret2;refine aG7 (ok:=decide (hd=c)) HK.o.rise (by have:=HN.o;omega) HI.o.1 HI.o.2 ?_ ?_
  ·rw [decide_eq_true_iff];constructor;·intro h;exact⟨q,HQ.o,by rw [← HD.o];exact h⟩
   rintro⟨q',hq',h⟩;rw [HQ.o] at hq';cases hq';rw [HD.o];exact h
  by_cases h:hd=c;·subst h;simp
  have h':¬ ((hd:Int)-(c:Int)=0):=by omega
  simp [h,h']
 go_wp2;go_ret2;refine aG7 (ok:=false) HK.o.rise (by have:=HN.o;omega) HI.o.1 HI.o.2 ?_ rfl;constructor;·intro h;cases h
 rintro⟨q',hq',_⟩;have:=(List.getElem?_eq_some_iff.1 hq').1;have:=HN.o;omega
theorem aJN {d b:Nat} {ks:List Kd} (h1:Rd w kv ks.length (ks.map fun q=>ptr q.b)) (h3:∀ q∈ks,0<q.lab.size) (h4:ks.Pairwise fun p q=>head p.lab<head q.lab) (h5:∀ q∈ks,RR w (d-q.lab.size) q.b q.lab q.f) :
  (ks=[]∧∃ a cap,kv=yC a 0 cap)∨∃ g off cap,kv=yC (yP ⟨g,off,yO⟩) ks.length cap∧0<ks.length∧KR w g off ks:=by
 rcases h1 with ⟨a,cap,rfl,_,e,_⟩ | ⟨g,off,cap,rfl,_,_,h,hc⟩
 ·exact .inl ⟨List.eq_nil_of_length_eq_zero e,a,cap,rfl⟩
 refine .inr ⟨g,off,cap,rfl,h,fun j q hj=>hc j _ (by rw [List.getElem?_map,hj];rfl),fun q hq=>⟨?_,h3 q hq⟩,h4⟩;cases h5 q hq with
 | mk _ b lab has val kv ks f h0=>exact h0.c0
theorem X5 {d b:Nat} {lab val:Key} {has:Bool} {ks:List Kd} {f:Mp} (c:Nat) (w:World) (h:RI w d b lab has val kv ks f) (hc:c<256) :
  Calls yM 248 #[yB (yP ⟨b,0,yO⟩),yE yK c] w (LD ks c w):=by
 have hn:=h.len;obtain⟨h0,h1,h2,h3,h4,h5,h6,h7⟩:=h;have hs:Calls yM 311 #[kv,yE yK c,yG (.func 312) #[] #[]] w (LD ks c w):=by
  rcases aJN (b:=b) h1 h3 h4 h5 with ⟨rfl,a,cap,rfl⟩ | ⟨g,off,cap,rfl,hl,hk⟩
  ·exact aQ8 a cap c w
  exact aQK g off _ cap c ks w rfl hl (by omega) hc hk
 obtain⟨a,cap,rfl⟩:=h1.shape;have c3:=h0.c3;have HS:=yN hs;go_enter func248,ntmps248;go_wp2_with fail;refine HS.o.mono ?_;rintro e w' ⟨rfl,l1,l2,rfl,jG,⟨q,l3,rfl,hq,rfl⟩ | ⟨hl2,rfl⟩⟩
 ·have HL:=yN (yd jG hq);go_wp2;go_ret2;exact⟨rfl,l1,q::l3,rfl,HL.o.1,.inl ⟨q,l3,rfl,HL.o.2,rfl⟩⟩
 have HL:=yN (yd jG hl2);go_wp2;go_ret2;exact⟨rfl,l1,l2,rfl,HL.o.1,.inr ⟨HL.o.2,rfl⟩⟩
end
section
variable {a b val lab:Key} {f:Mp} {kv:Value} {has:Bool} {d:Nat} {w:World}
theorem WR (h:Twig.pM a b=true):a=b++a.extract b.size a.size:=by
 unfold Twig.pM at h;rw [Twig.aFY,List.isPrefixOf_iff_prefix] at h;obtain⟨t,ht⟩:=h;apply nR;rw [jX,qA,← fA b,← ht,List.drop_left',List.take_of_length_le];·rw [← fA a,← ht,yy];omega
 rfl
theorem a29 (h:tV a b):Twig.pM a b=true:=by
 obtain⟨r,rfl⟩:=h;unfold Twig.pM;rw [jX,Twig.aSG];exact beq_self_eq_true _
theorem aI1 (h:Twig.pM a b=false):¬ tV a b:=fun hb=>by rw [a29 hb] at h;cases h
theorem aHD (h:Twig.pM a b=true):(a.extract b.size a.size).size+b.size=a.size:=by
 have:=congrArg ByteArray.size (WR h);rw [eP] at this;omega
theorem RF {k:Key} (h:k≠yj):(ByteArray.toList k).isEmpty=false:=by
 rw [ByteArray.toList_eq];cases e:k.data.toList with
 | nil=>exact absurd (nR (by rw [e];rfl)) h
 | cons x l=>rfl
theorem RI.kid {b:Nat} {l1 l3:List Kd} {q:Kd} (h:RI w d b lab has val kv (l1++q::l3) f) :
  ∃ g off cap,kv=yC (yP ⟨g,off,yO⟩) (l1++q::l3).length cap∧w.cell? ⟨g,off+l1.length,yO⟩=yP (yB (yP ⟨q.b,0,yO⟩))∧w.cell? ⟨q.b,0,yO⟩=yP (yA q.lab):=by
 rcases aJN (b:=b) h.h1 h.h3 h.h4 h.h5 with ⟨e,_⟩ | ⟨g,off,cap,rfl,hl,hk⟩
 ·simp at e
 exact⟨g,off,cap,rfl,hk.cells l1.length q (by simp),(hk.labs q (by simp)).1⟩
theorem RI.a3A {b:Nat} {ks:List Kd} (h:RI w d b lab has val kv ks f):val=(f yj).getD yj∧has=(f yj).isSome:=by
 rw [h.h6.1];cases has with
 | true=>exact⟨rfl,rfl⟩
 | false=>exact⟨h.h2 rfl,rfl⟩
theorem RI.away {b:Nat} {l1 l2:List Kd} (h:RI w d b lab has val kv (l1++l2) f) {key:Key} (hk:key≠yj) (h1:∀ q∈l1,head q.lab<head key) (h2:∀ q∈l2,head key<head q.lab):∀ q∈l1++l2,head q.lab≠head key:=fun q hq=>by
 rcases za.1 hq with hq | hq
 ·have:=h1 q hq;omega
 have:=h2 q hq;omega
theorem RI.B5 {w:World} {d b:Nat} {lab:Key} {has:Bool} {val:Key} {kv:Value} {ks:List Kd} {f:Mp} (h:RI w d b lab has val kv ks f) {q:Kd} (hq:q∈ks):gC q f:=h.h6.B5 h.h3 h.h4 hq
theorem aUQ (d b:Nat) (lab key:Key) (f:Mp) (w:World) (h:RR w d b lab f) :
  Calls yM 178 #[yB (yP ⟨b,0,yO⟩),yA key] w fun e w'=>e = .returned (.tuple #[yA ((f key).getD yj),yD (f key).isSome])∧Kept w w':=by
 have H:=yN h;obtain⟨fk,vS⟩:∃ fk,fk=f key:=⟨_,rfl⟩;rw [← vS];have HF:=yN vS;obtain⟨sz,hsz⟩:∃ sz,sz=key.size:=⟨_,rfl⟩;have HZ:=yN hsz;clear h vS hsz;go_enter func178,ntmps178;go_wp2_with fail;refine (X4 b _).mono ?_;rintro e w' ⟨rfl,rfl⟩;go_wp2_with fail
 go_loopg [1,6] sz (fun kx s1 s6 wr=>∃ (b' d':Nat) (tX nV:Key) (f':Mp),s1=yA nV∧s6=yB (yP ⟨b',0,yO⟩)∧Hid (nV.size≤kx)∧wr=w∧Hid (RR wr d' b' tX f'∧f' nV=fk))
 case atStart=>exact⟨b,d,lab,key,f,rfl,rfl,yN (yh HZ.o.symm),rfl,yN ⟨H.o,HF.o.symm⟩⟩
 clear H HF HZ;obtain⟨b',d',tX,nV,f',rfl,rfl,HM,rfl,HR⟩:=hrel;obtain⟨has,val,kv,ks,fH⟩:=HR.o.1.ri;have HRI:=yN fH;by_cases hk:nV=yj
 ·subst hk;have h0:=fH.h0;obtain⟨hv,hh⟩:=fH.a3A;rw [HR.o.2] at hv hh;clear fH;subst hv hh;go_wp2_with fail;refine (QF _ _ _ _ _ _ h0).mono ?_;rintro e w' ⟨rfl,q,rfl⟩;clear h0;go_wp2;go_ret2;exact⟨rfl,iC (yk _ _) q⟩
 have zA:0<nV.size:=xC.1 hk;have mZ:=KG nV zA;have LZ:=KH nV;have HK:=yN hk;have IV:=RF hk;clear fH;have HH:=yN mZ;clear mZ hk;go_wp2_with fail;rw [← HH.o];refine (X5 (head nV) _ HRI.o LZ).mono ?_;rintro e w' ⟨rfl,l1,l2,rfl,jG,⟨q,l3,rfl,hq,rfl⟩ | ⟨hl2,rfl⟩⟩
 ·obtain⟨g,off,cap,rfl,c1,c2⟩:=HRI.o.kid;have c3:=HRI.o.h0.c3;have HQ:=yN hq;have uJ:l1.length<(l1++q::l3).length:=by simp
  have hcv:=HRI.o.B5 (q:=q) (by simp);have EG:=HRI.o.h5 q (by simp);have xM:=HRI.o.h3 q (by simp);have HC:=yN (yd hcv (yd EG xM));generalize (l1++q::l3).length=nk at *;clear hq jG hcv EG xM;cases hb:Twig.pM nV q.lab with
  | true=>
   have HB:=yN hb;go_wp2_with fail;refine (Twig.aHC nV q.lab _ hb).mono ?_;rintro e w' ⟨rfl,rfl⟩;clear hb;go_wp2;go_roundg (nV.extract q.lab.size nV.size).size;case measure=>
    have h1:=aHD HB.o;have h2:=HC.o.2.2;have h3:=HM.o;omega
   refine⟨q.b,d'-q.lab.size,q.lab,_,q.f,rfl,rfl,yN (ye _),rfl,yN ⟨HC.o.2.1,?_⟩⟩;rw [← HR.o.2,← HC.o.1.1,← WR HB.o]
  | false=>
   have hv:fk=yO:=by
    rw [← HR.o.2];cases e:f' nV with
    | none=>rfl
    | some v=>exact absurd (HC.o.1.2 nV v HK.o HQ.o.symm e) (aI1 hb)
   subst hv;go_wp2_with fail;refine (Twig.aIC nV q.lab _ hb).mono ?_;rintro e w' ⟨rfl,rfl⟩;clear hb;go_wp2;go_ret2;exact⟨rfl,yk _ _⟩
 have hv:fk=yO:=by
  rw [← HR.o.2];exact HRI.o.h6.VA HRI.o.h3 HK.o (HRI.o.away HK.o jG hl2)
 clear jG hl2;subst hv;go_wp2;go_ret2;exact⟨rfl,yk _ _⟩
end
section
variable {kv:Value} {has:Bool} {lab val:Key} {c B d b:Nat} {w:World} {f:Mp}
theorem OR.aside {nk:Nat} {ks:List Value} (h:OR B w c lab has val kv nk ks) {u o:Nat} {v:Value} (hu:u≠c) (hr:kv.ownBlock≠yP u):OR B (w.setCell ⟨u,o,yO⟩ v) c lab has val kv nk ks:=by
 have hs:∀ (g:Nat),g≠u→(w.setCell ⟨u,o,yO⟩ v).heap[g]?=w.heap[g]?:=fun g hne=>yl _ _ _ _ hne;exact⟨(hs c (fun e=>hu e.symm)).trans h.1,h.2.1,cF h.2.2 fun g hg=>hs g (fun e=>hr (by rw [hg,e]))⟩
theorem RI.own {w':World} {tX:Key} {bX:Value} {ks:List Kd} (h:RI w d b lab has val kv ks f) (hk:Kept w w') (ho:OR B w' c tX has val bX ks.length (ks.map fun q=>ptr q.b)):RI w' d c tX has val bX ks f:=
 ⟨ho.nr,ho.rd,h.h2,h.h3,h.h4,fun q hq=>(h.h5 q hq).kept hk,h.h6,h.h7⟩
theorem VU (ks:List Kd):∀ u∈ks.map (fun q=>ptr q.b),u.oneCell'=true:=by
 intro u hu;obtain⟨x,_,rfl⟩:=zj.1 hu;rfl
theorem yV {ks:List Kd} (h:RI w d b lab has val kv ks f) :
  Calls yM 287 #[yB (yP ⟨b,0,yO⟩),yB yO] w fun e w'=>∃ c bX,e = .returned (yB (yP ⟨c,0,yO⟩))∧OR w.heap.size w' c lab has val bX ks.length (ks.map fun q=>ptr q.b)∧Kept w w':=
 YV b ks.length lab val has kv _ w h.h0 h.h1 (by simp) (by have:=h.len;omega) (VU ks)
theorem aUR (d b at_:Nat) (lab:Key) (f:Mp) (w:World) (h:RR w d b lab f) (h0:0<at_) (h1:at_<lab.size) :
  Calls yM 292 #[yB (yP ⟨b,0,yO⟩),yB yO,yE yH at_] w fun e w'=>
   ∃ u,e = .returned (yB (yP ⟨u,0,yO⟩))∧RR w' ((lab.size-at_)+d) u (lab.extract 0 at_) (behind (lab.extract at_ lab.size) f)∧Kept w w':=by
 obtain⟨has,val,kv,ks,fH⟩:=h.ri;have HRI:=yN fH;have c0:=fH.h0.c0;have hbl:=mU c0;have gR:(at_:Int)≤(lab.size:Int):=by omega
 go_enter func292,ntmps292;go_wp2_with fail;have aP:=yN (gB w);refine cP (fun W:World=>W.cell? ⟨b,0,yO⟩=yP (yA lab)) 11 12 c0 fun HS=>?_;generalize w.drew=wd at *;refine tM 0 HS ?_;refine tM 2 HS ?_;refine tM 4 HS ?_;refine tM 5 HS ?_;refine tM 6 HS ?_;refine lM 7 HS ?_;refine tM 8 HS ?_;refine tM 9 HS ?_;go_frame;refine oM 1 fun K hK=>?_;go_simp;obtain⟨aA,hz⟩:=aW wd (yL #[yA ⟨#[]⟩,yD false,yA ⟨#[]⟩,yC yO 0 0,yB yO] 345);have aJ:=yN (aB aP.o aA);have HZ:=yN hz;have aF:=yN (aA.cell HS.o);refine hK _ _ (.inr aF.o) ?_;generalize wd.alloc _=w1 at *;generalize wd.heap.size=zb at *;refine oM 3 fun K hK=>?_;go_simp;refine (YV zb 0 ⟨#[]⟩ ⟨#[]⟩ false (yC yO 0 0) [] _ ⟨⟨DJ _ _,_,_,HZ.o⟩,aG HZ.o rfl,aG HZ.o rfl,aG HZ.o rfl,aG HZ.o rfl,_,aG HZ.o rfl⟩ G0 rfl (by omega) (by intro u hu;cases hu)).mono ?_;rintro e w2 ⟨u,ukv,rfl,ho,hk⟩;have HU:=yN ho;have aH:=yN (aB aJ.o hk);have cR:w.heap.size≤w1.heap.size:=aJ.o.size;have gJ:=yN (hk.cell aF.o);refine hK _ _ (.inr gJ.o) ?_;refine oM 10 fun K hK=>?_;go_simp;refine (QE _ u _ (lab.extract 0 at_) _ _ _ _ _ _ HU.o).mono ?_;rintro e w3 ⟨rfl,ho,hk⟩;have EH:=yN ((Below.cell hk (p:=⟨b,0,yO⟩) (yi hbl cR)).trans gJ.o);refine hK _ _ (.inr EH.o) ?_;have HU3:=yN ho;have aL:=yN (yn aH.o (Below.mono hk cR));refine oM 11 fun K hK=>?_;go_simp;refine hK _ _ aX ?_;refine cM ?_;generalize w1.heap.size=B1 at *;go_wp2_with fail;refine (yV (HRI.o.kept aL.o)).mono ?_;rintro e w4 ⟨dn,dkv,rfl,ho,hk⟩;have HD:=yN ho;have L0:=yN hk;have aR:=yN (aB aL.o hk);have cd:=ho.nr.c0;go_wp2_with fail;refine (QE _ dn _ (lab.extract at_ lab.size) _ _ _ _ _ _ HD.o).mono ?_;rintro e w5 ⟨rfl,ho,hk⟩;have HD5:=yN ho;have aKO:=yN (show Kept w3 w5 from yn L0.o hk);have bI:=yN (show Kept w w5 from aB aL.o aKO.o);obtain⟨aA,hz⟩:=aW w5 (yL #[yB (yP ⟨dn,0,yO⟩)] 177);have HT:=yN hz;have a7G:=yN (aB aKO.o aA);have dS:=yN (aB bI.o aA);have kX:=yN (HD5.o.kept aA);have aQ:w.heap.size≤w5.heap.size:=bI.o.size;have SL:=yN (HU3.o.kept a7G.o);have e3:(w5.alloc (yL #[yB (yP ⟨dn,0,yO⟩)] 177)).cell? ⟨u,3,yO⟩=yP ukv:=SL.o.nr.c3;have f3:(w5.alloc (yL #[yB (yP ⟨dn,0,yO⟩)] 177)).frozen? ⟨u,3,yO⟩=false:=SL.o.fz 3;go_wp2;go_ret;generalize w5.alloc _=w6 at *;generalize w5.heap.size=rb at *;have bG1:u<w3.heap.size:=HU3.o.lt;have IW:w.heap.size≤u:=yf cR HU3.o.2.1;have hrow:w6.ownsRow w.heap.size 177 1 (yC (yP ⟨rb,0,yO⟩) 1 1) 1 [ptr dn]:=⟨rfl,.inr ⟨rb,1,_,rfl,aQ,HT.o,ye _,by unfold maxLen;omega,rfl,rfl⟩⟩;have hOU:OR w.heap.size w6 u (lab.extract 0 at_) false yj ukv 0 []:=⟨SL.o.1,IW,dG SL.o.2.2 cR⟩;have hN:=hOU.kids (w1:=w6) (P6 _ _) hrow;have cG:w3.heap.size≤dn:=kX.o.2.1;have hD7:=kX.o.aside (u:=u) (o:=3) (v:=yC (yP ⟨rb,0,yO⟩) 1 1) (by omega) (fun e=>by have:=(kX.o.2.2.lt u e).1;omega);have HN:=yN hN.1;have fI:=yN (yn dS.o hN.2);have HD7:=yN hD7;generalize w6.setCell _ _=w7 at *;refine⟨u,rfl,?_,fI.o⟩;have hsz:(lab.extract at_ lab.size).size=lab.size-at_:=by rw [← fA,qA,ze,zg,fA];omega
 have IX:RR w7 d dn (lab.extract at_ lab.size) f:=(HRI.o.own fI.o HD7.o).rr
 exact .mk _ u _ false yj _ [⟨dn,lab.extract at_ lab.size,f⟩] _ HN.o.nr HN.o.rd (fun _=>rfl) (by intro q hq;rw [List.mem_singleton.1 hq];show 0<(lab.extract at_ lab.size).size;omega) (List.pairwise_singleton _ _)
  (by intro q hq;rw [List.mem_singleton.1 hq];show RR w7 (lab.size-at_+d-(lab.extract at_ lab.size).size) dn _ f;rw [hsz,Nat.add_sub_cancel_left];exact IX)
  (aR7 dn _ f (by omega)) (by intro q hq;rw [List.mem_singleton.1 hq];show (lab.extract at_ lab.size).size≤_;omega)
end
section
def tY (d b:Nat) (lab:Key) (f:Mp) (key value:Key) (w:World) (e:Ending) (w':World):Prop:=
 ∃ c a ch,e = .returned (.tuple #[yB (yP ⟨c,0,yO⟩),yD a,yD ch])∧RR w' d c lab (upd f key (yP value))∧Kept w w'∧(ch=false→c=b∧f key=yP value)
theorem aEC (d b:Nat) (lab value:Key) (f:Mp) (w:World) (h:RR w d b lab f) :
  Calls yM 227 #[yB (yP ⟨b,0,yO⟩),yB yO,yA yj,yA value] w (tY d b lab f yj value w):=by
 obtain⟨has,val,kv,ks,fH⟩:=h.ri;have HRI:=yN fH;have c1:=fH.h0.c1;have c2:=fH.h0.c2;have hbl:=mU c1;have hown:=fH.h6.1;have HOW:=yN hown;clear h fH hown;have hv:=qJ val value;by_cases hh:has=true∧val=value
 ·obtain⟨rfl,rfl⟩:=hh;rw [decide_eq_true rfl] at hv;have HFV:Hid (f yj=yP val):=yN (by have:=HOW.o;simpa using this);clear HOW;go_enter func227,ntmps227;go_wp2_with fail;go_ret3;unfold tY;refine⟨b,_,_,rfl,?_,yk _ _,fun _=>⟨rfl,HFV.o⟩⟩;rw [qG _ _ _ HFV.o];exact HRI.o.rr
 have hne:has=true→(ByteArray.toList val == ByteArray.toList value)=false:=fun e=>by rw [hv];exact decide_eq_false (fun e2=>hh ⟨e,e2⟩)
 clear hv hh;have sJ:=yN hne;clear hne;go_enter func227,ntmps227;cases has with
 | true=>
  have hv:=sJ.o rfl;go_wp2_with fail;have HS:Hid ((fun W:World=>W.cell? ⟨b,1,yO⟩=yP (yD true)) w.drew):=yN (c1);have aP:Hid (Kept w w.drew):=yN (ym (yk _ _));clear c1 c2;refine JP (fun W:World=>W.cell? ⟨b,1,yO⟩=yP (yD true)) 12 13 (by kernel_rfl) (by kernel_rfl) ?_;generalize w.drew=wd at *;refine tM 0 HS ?_;go_frame;refine tM 1 HS ?_;go_frame;refine tM 3 HS ?_;go_frame;refine tM 5 HS ?_;go_frame;refine tM 6 HS ?_;go_frame;refine tM 7 HS ?_;go_frame;refine lM 8 HS ?_;go_frame;refine tM 9 HS ?_;go_frame;refine oM 2 fun K hK=>?_;go_simp;refine (yV (HRI.o.kept aP.o)).mono ?_;rintro e w2 ⟨c,bX,rfl,ho,hk⟩;have HO:=yN ho;have cR:w.heap.size≤wd.heap.size:=aP.o.size;have aH:=yN (aB aP.o hk);have gJ:Hid ((fun W:World=>W.cell? ⟨b,1,yO⟩=yP (yD true)) w2):=yN (hk.cell HS.o);refine hK _ _ (.inr gJ.o) ?_;clear hK K HS ho hk aP;refine oM 4 fun K hK=>?_;go_simp;refine (U2 _ c _ value _ _ _ _ _ _ HO.o).mono ?_;rintro e w3 ⟨rfl,ho,hk⟩;have EH:Hid ((fun W:World=>W.cell? ⟨b,1,yO⟩=yP (yD true)) w3):=yN ((Below.cell hk (p:=⟨b,1,yO⟩) (yi hbl cR)).trans gJ.o);refine hK _ _ (.inr EH.o) ?_;have fX:=yN ho;have aL:=yN (yn aH.o (Below.mono hk cR));clear hK K gJ ho hk HO aH;have HS:=EH;clear EH;refine oM 10 fun K hK=>?_;go_simp;refine hK _ _ (.inr HS.o) ?_;clear hK K;refine oM 11 fun K hK=>?_;go_simp;refine hK _ _ (.inr HS.o) ?_;clear hK K;refine oM 12 fun K hK=>?_;go_simp;refine hK _ _ (.inl (by kernel_rfl)) ?_;clear hK K;refine uX (by kernel_rfl) ?_ _;go_wp2;go_ret3;unfold tY;refine⟨c,_,_,rfl,?_,aL.o,fun e=>by cases e⟩;have h6:=HRI.o.h6.own HRI.o.h3 (LM:=yP value);exact .mk d c lab true value _ ks _ fX.o.nr fX.o.rd (fun e=>by cases e) HRI.o.h3 HRI.o.h4 (fun q hq=>(HRI.o.h5 q hq).kept aL.o) h6 HRI.o.h7
 | false=>
  go_wp2_with fail;have HS:Hid ((fun W:World=>W.cell? ⟨b,1,yO⟩=yP (yD false)) w.drew):=yN (c1);have aP:Hid (Kept w w.drew):=yN (ym (yk _ _));clear c1 c2;refine JP (fun W:World=>W.cell? ⟨b,1,yO⟩=yP (yD false)) 12 13 (by kernel_rfl) (by kernel_rfl) ?_;generalize w.drew=wd at *;refine tM 0 HS ?_;go_frame;refine tM 1 HS ?_;go_frame;refine tM 3 HS ?_;go_frame;refine tM 5 HS ?_;go_frame;refine tM 6 HS ?_;go_frame;refine tM 7 HS ?_;go_frame;refine lM 8 HS ?_;go_frame;refine tM 9 HS ?_;go_frame;refine oM 2 fun K hK=>?_;go_simp;refine (yV (HRI.o.kept aP.o)).mono ?_;rintro e w2 ⟨c,bX,rfl,ho,hk⟩;have HO:=yN ho;have cR:w.heap.size≤wd.heap.size:=aP.o.size;have aH:=yN (aB aP.o hk);have gJ:Hid ((fun W:World=>W.cell? ⟨b,1,yO⟩=yP (yD false)) w2):=yN (hk.cell HS.o);refine hK _ _ (.inr gJ.o) ?_;clear hK K HS ho hk aP;refine oM 4 fun K hK=>?_;go_simp;refine (U2 _ c _ value _ _ _ _ _ _ HO.o).mono ?_;rintro e w3 ⟨rfl,ho,hk⟩;have EH:Hid ((fun W:World=>W.cell? ⟨b,1,yO⟩=yP (yD false)) w3):=yN ((Below.cell hk (p:=⟨b,1,yO⟩) (yi hbl cR)).trans gJ.o);refine hK _ _ (.inr EH.o) ?_;have fX:=yN ho;have aL:=yN (yn aH.o (Below.mono hk cR));clear hK K gJ ho hk HO aH;have HS:=EH;clear EH;refine oM 10 fun K hK=>?_;go_simp;refine hK _ _ (.inr HS.o) ?_;clear hK K;refine oM 11 fun K hK=>?_;go_simp;refine hK _ _ (.inr HS.o) ?_;clear hK K;refine oM 12 fun K hK=>?_;go_simp;refine hK _ _ (.inl (by kernel_rfl)) ?_;clear hK K;refine uX (by kernel_rfl) ?_ _;go_wp2;go_ret3;unfold tY;refine⟨c,_,_,rfl,?_,aL.o,fun e=>by cases e⟩;have h6:=HRI.o.h6.own HRI.o.h3 (LM:=yP value);exact .mk d c lab true value _ ks _ fX.o.nr fX.o.rd (fun e=>by cases e) HRI.o.h3 HRI.o.h4 (fun q hq=>(HRI.o.h5 q hq).kept aL.o) h6 HRI.o.h7
end
section
open Op
attribute [local irreducible] look
theorem a6Z:∀ (i:Nat) (A B:List UInt8) (x y:UInt8),(∀ j,j<i→A[j]?=B[j]?)→A[i]?=yP x→B[i]?=yP y→x≠y→bytesLess A B=decide (x.toNat<y.toNat):=by
 intro i;induction i with
 | zero=>
  intro A B x y _ hA hB hne;cases A with
  | nil=>simp at hA
  | cons a A=>
   cases B with
   | nil=>simp at hB
   | cons b B=>
    simp at hA hB;subst hA hB;rw [Bool.eq_iff_iff,A9];simp [hne,UInt8.lt_iff_toNat_lt]
 | succ i ih=>
  intro A B x y he hA hB hne;cases A with
  | nil=>simp at hA
  | cons a A=>
   cases B with
   | nil=>simp at hB
   | cons b B=>
    have h0:=he 0 (by omega);simp at h0 hA hB;subst h0;have h1:=ih A B x y (fun j hj=>by have:=he (j+1) (by omega);simpa using this) hA hB hne;rw [← h1,Bool.eq_iff_iff,A9];simp [UInt8.lt_irrefl]
theorem aJJ:∀ (i:Nat) (A B:List UInt8),(∀ j,j<i→A[j]?=B[j]?)→(A.length=i∧i≤B.length∨B.length=i∧i≤A.length)→bytesLess A B=decide (A.length<B.length):=by
 intro i;induction i with
 | zero=>
  intro A B _ h;cases A with
  | nil=>cases B <;> simp [bytesLess]
  | cons a A=>
   cases B with
   | nil=>simp [bytesLess]
   | cons b B=>simp at h
 | succ i ih=>
  intro A B he h;cases A with
  | nil=>simp at h
  | cons a A=>
   cases B with
   | nil=>simp at h
   | cons b B=>
    have h0:=he 0 (by omega);simp at h0;subst h0;have h1:=ih A B (fun j hj=>by have:=he (j+1) (by omega);simpa using this) (by simp at h;omega);rw [Bool.eq_iff_iff,A9,h1];simp [UInt8.lt_irrefl]
theorem aZR (a b:Key) (w:World) (ha:a.size≤1000) (hb:b.size≤1000) :
  Calls yM 28 #[yA a,yA b] w fun e w'=>e = .returned (yD (lt a b))∧Kept w w':=by
 go_enter func28,ntmps28;go_wp2_with fail
 go_loopg [5] a.size (fun kx s5 wr=>∃ i:Nat,s5=yE yH i∧i≤a.size∧i≤b.size∧a.size-i≤kx∧Hid (∀ j,j<i→a.data.toList[j]?=b.data.toList[j]?)∧Hid (Kept w wr))
 case atStart=>exact⟨0,rfl,yg _,yg _,by omega,yN fun j hj=>absurd hj (by omega),yN (yk _ _)⟩
 obtain⟨i,rfl,UD,hib,hm,HE,HK⟩:=hrel;by_cases h1:i<a.size
 ·by_cases h2:i<b.size
  ·have d1:decide ((i:Int)<(a.size:Int))=true:=by simp;omega
   have d2:decide ((i:Int)<(b.size:Int))=true:=by simp;omega
   go_wp2_with fail;go_big_quiet (fail);have iF:=yN (iC HK.o nq);generalize wr.drewN nq=v at *;have hA:a.data.toList[i]?=yP a[i]:=by rw [Array.getElem?_toList,Array.getElem?_eq_getElem h1];rfl
   have hB:b.data.toList[i]?=yP b[i]:=by rw [Array.getElem?_toList,Array.getElem?_eq_getElem h2];rfl
   have HN:Hid (a[i]≠b[i]→lt a b=decide (a[i].toNat<b[i].toNat)):=yN fun hne=>a6Z i _ _ _ _ HE.o hA hB hne;have TX:Hid (a[i]=b[i]→a.data.toList[i]?=b.data.toList[i]?):=yN fun e=>by rw [hA,hB,e]
   by_cases hc:a[i]=b[i]
   ·have ED:((a[i].toNat:Int) != (b[i].toNat:Int))=false:=by rw [hc];simp
    go_wp2_with fail;go_roundg (a.size-(i+1));case measure=>omega
    exact⟨i+1,by go_num,by omega,by omega,ye _,yN fun j hj=>by
    by_cases e:j=i;·subst e;exact TX.o hc
    exact HE.o j (by omega),iF⟩
   have ED:((a[i].toNat:Int) != (b[i].toNat:Int))=true:=by
    have:a[i].toNat≠b[i].toNat:=fun e=>hc (UInt8.toNat_inj.1 e);simp;omega
   go_wp2_with fail;go_big_quiet (fail);have aV:=yN (iC iF.o nq);go_wp2_with fail;go_ret;exact⟨by rw [HN.o hc];rfl,aV.o⟩
  have d1:decide ((i:Int)<(a.size:Int))=true:=by simp;omega
  have d2:decide ((i:Int)<(b.size:Int))=false:=by simp;omega
  have HN:Hid (lt a b=decide (a.size<b.size)):=yN (aJJ i _ _ HE.o (by simp only [Array.length_toList];right;exact⟨show b.size=i by omega,show i≤a.size by omega⟩));go_wp2_with fail;go_ret;exact⟨by rw [HN.o];simp,HK.o⟩
 have d1:decide ((i:Int)<(a.size:Int))=false:=by simp;omega
 have HN:Hid (lt a b=decide (a.size<b.size)):=yN (aJJ i _ _ HE.o (by simp only [Array.length_toList];left;exact⟨show a.size=i by omega,show i≤b.size by omega⟩));go_wp2_with fail;go_ret;exact⟨by rw [HN.o];simp,HK.o⟩
end
end Go.Proofs.YtcldomgdkhenpaaGreat
