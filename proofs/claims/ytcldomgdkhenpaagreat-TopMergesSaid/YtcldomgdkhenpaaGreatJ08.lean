/- Lemmas. -/
import Derived.Test.YtcldomgdkhenpaaGreatJ03
import Derived.Test.YtcldomgdkhenpaaGreatJ06
import Derived.RegionTactic
import Derived.Deep.LoopGhost
import Derived.IntWalk
import Derived.CellFam
import Derived.BigGuard
import Derived.BigCall
set_option linter.unusedVariables false
set_option maxRecDepth 1000000
set_option maxHeartbeats 40000000
open Go.Proofs.Tryz
open Go.Proofs.Tryz renaming prog → yM
open Go.Value renaming pointer → yB,slice → yC,bool → yD,int → yE
open Go.IntKind renaming i64 → yH,u32 → yI
open Go.Obj renaming cells → yL
open Option renaming none → yO,some → yP
open Go.Lib renaming hid → yN
open And renaming intro → yd
open Array renaming getElem?_eq_some_iff → yo
open Go.Calls renaming quiet_of_same → zl
open Go.RowKit.Below renaming heap_setCell → yl,refl → yk
open Nat renaming le_refl → ye,le_trans → yf,lt_of_lt_of_le → yi
open Go.RowKit
namespace Go.Proofs.YtcldomgdkhenpaaGreat
section
variable {w w':World} {b o n t:Nat}
def UR (b o n:Nat) (w:World):Prop:=∃ cs,w.heap[b]?=yP (yL cs 35)∧o+n≤cs.size∧∀ t,t<n→∃ x:Int,cs[o+t]?=yP (yE yI x)
theorem UR.iA (h:UR b o n w):∃ G:Nat→Int,(∀ t,t<n→w.cell? ⟨b,o+t,yO⟩=yP (yE yI (G t)))∧∀ t,t<n→w.frozen? ⟨b,o+t,yO⟩=false:=by
 obtain⟨cs,h1,h2,h3⟩:=h;have h4:∀ t,∃ x:Int,t<n→cs[o+t]?=yP (yE yI x):=fun t=>by
  by_cases ht:t<n
  ·obtain⟨x,hx⟩:=h3 t ht;exact⟨x,fun _=>hx⟩
  exact⟨0,fun h=>absurd h ht⟩
 refine⟨fun t=>Classical.choose (h4 t),fun t ht=>aG h1 (by rw [Array.getElem?_toList];exact Classical.choose_spec (h4 t) ht),fun t ht=>aU h1⟩
theorem UR.put (h:UR b o n w) {x:Int} : UR b o n (w.setCell ⟨b,t,yO⟩ (yE yI x)):=by
 obtain⟨cs,h1,h2,h3⟩:=h;refine⟨_,heap_setCell h1,by simpa using h2,fun i hi=>?_⟩;obtain⟨y,hy⟩:=h3 i hi;by_cases e:t=o+i
 ·subst e;exact⟨x,by simp [Array.getElem?_setIfInBounds];omega⟩
 exact⟨y,by simp [e];exact hy⟩
theorem UR.drewN {b o n q:Nat} {w:World} (h:UR b o n w):UR b o n (w.drewN q):=h
theorem UR.drew {b o n:Nat} {w:World} (h:UR b o n w):UR b o n w.drew:=h
abbrev Om (b:Nat):World→World→Prop:=Sm (fun i=>i=b)
theorem Om.put (h:Om b w w') {v:Value} : Om b w (w'.setCell ⟨b,t,yO⟩ v):=
 ⟨h.os,h.tape,h.output,by simpa [World.setCell] using h.size,fun i hi hs=>(yl _ _ _ _ (by simpa using hs)).trans (h.same i hi hs)⟩
theorem Om.drewN {b q:Nat} {w w':World} (h:Om b w w'):Om b w (w'.drewN q):=⟨h.os,h.tape,h.output,h.size,h.same⟩
theorem Om.drew {b:Nat} {w w':World} (h:Om b w w'):Om b w w'.drew:=⟨h.os,h.tape,h.output,h.size,h.same⟩
theorem Om.refl (b:Nat) (w:World):Om b w w:=⟨rfl,rfl,rfl,ye _,fun _ _ _=>rfl⟩
structure Us (b o n:Nat) (w w':World):Prop where
 u:UR b o n w'
 o:Om b w w'
theorem Us.put {b o n:Nat} {w w':World} (h:Us b o n w w') {t:Nat} {x:Int} : Us b o n w (w'.setCell ⟨b,t,yO⟩ (yE yI x)):=⟨h.u.put,h.o.put⟩
theorem Us.drewN {b o n q:Nat} {w w':World} (h:Us b o n w w'):Us b o n w (w'.drewN q):=⟨h.u.drewN,h.o.drewN⟩
theorem Us.drew {b o n:Nat} {w w':World} (h:Us b o n w w'):Us b o n w w'.drew:=⟨h.u.drew,h.o.drew⟩
theorem Us.start (h:UR b o n w):Us b o n w w:=⟨h,Om.refl b w⟩
theorem Us.then {w2:World} (h:Us b o n w w') (g:Us b o n w' w2):Us b o n w w2:=⟨g.u,h.o.trans g.o⟩
theorem a1P (x:Int) (w:World):Calls yM 430 #[yE yI x] w fun e w'=>e = .returned (yD false)∧w'=w:=by
 go_enter func430,ntmps430;go_wp2_with fail;go_ret;exact⟨by simp,rfl⟩
theorem fB (x y:Int) (w:World):Calls yM 403 #[yE yI x,yE yI y] w fun e w'=>e = .returned (yD (decide (x<y)))∧w'=w:=by
 go_enter func403,ntmps403;go_wp2_with (go_at_call 430;refine (a1P _ _).mono ?_;rintro e w' ⟨rfl,rfl⟩);go_ret;exact⟨rfl,rfl⟩
theorem a6E (b o n cap lo hi:Nat) (w:World) (h:UR b o n w) (h1:lo≤hi) (h2:hi≤n) (hn:n≤1000000) :
  Calls yM 397 #[yC (yP ⟨b,o,yO⟩) n cap,yE yH lo,yE yH hi] w fun e w'=>e = .returned (.tuple #[])∧Us b o n w w':=by
 have HU:=yN (Us.start h);go_enter func397,ntmps397;go_wp2_with fail
 go_loopg [6] (hi+1) (fun kx s6 wr=>∃ i:Nat,s6=yE yH i∧lo<i∧i≤hi+1∧hi+1-i≤kx∧Hid (Us b o n w wr))
 case atStart=>exact⟨lo+1,by go_num,by omega,by omega,by omega,HU⟩
 obtain⟨i,rfl,gR,oA,hm,HX⟩:=hrel;by_cases hlt:i<hi
 ·have cD:(i:Int)<(hi:Int):=by omega
  go_wp2_with fail
  go_loopg [7] i (fun ky s7 wr2=>∃ j:Nat,s7=yE yH j∧lo≤j∧j≤i∧j≤ky∧Hid (Us b o n w wr2))
  case atStart=>exact⟨i,rfl,by omega,ye _,ye _,HX⟩
  obtain⟨j,rfl,lW,vT,uH,HY⟩:=hrel;obtain⟨G,hc,hf⟩:=HY.o.u.iA;by_cases hja:lo<j
  ·go_wp2_with fail;go_big_quiet (first | (go_at_call 403;refine zl (fB _ _ _)));go_wp2_with fail
   ·go_region;all_goals go_wp2_with fail
    go_roundg (j-1);case measure=>omega
    exact⟨j-1,by congr 1;omega,by omega,by omega,ye _,yN HY.o.drewN.put.put⟩
   go_roundg (hi-i);case measure=>omega
   exact⟨i+1,by congr 1,by omega,by omega,by omega,yN HY.o.drewN⟩
  go_wp2_with fail;go_big_quiet (first | (go_at_call 403;refine zl (fB _ _ _)));go_wp2_with fail;go_roundg (hi-i);case measure=>omega
  exact⟨i+1,by congr 1,by omega,by omega,by omega,yN HY.o.drewN⟩
 have cD:¬ (i:Int)<(hi:Int):=by omega
 go_wp2_with fail;go_end0;exact⟨rfl,HX.o⟩
end
section
theorem a6K (b o n cap lo hi pv:Nat) (w:World) (h:UR b o n w) (h1:lo≤pv) (h2:pv<hi) (h3:hi≤n) (hn:n≤1000000) :
  Calls yM 404 #[yC (yP ⟨b,o,yO⟩) n cap,yE yH lo,yE yH hi,yE yH pv] w fun e w'=>∃ x:Nat,e = .returned (yE yH x)∧lo<x∧x≤hi∧Us b o n w w':=by
 obtain⟨G,hc,hf⟩:=h.iA;have HU:=yN (Us.start h);go_enter func404,ntmps404;go_wp2_with fail;rcases Nat.eq_or_lt_of_le h1 with rfl | qU
 all_goals
 go_region;go_wp2_with fail
 go_loopg [9,10] (hi+hi) (fun kx s9 cK wr=>∃ i k:Nat,s9=yE yH i∧cK=yE yH ((k:Int)-1)∧lo<i∧i≤hi∧k≤hi∧lo+1≤k∧(hi-i)+k≤kx∧Hid (Us b o n w wr))
 case atStart=>exact⟨lo+1,hi,by congr 1,by congr 1,by omega,by omega,ye _,by omega,by omega,yN HU.o.drew.put.put⟩
 obtain⟨i,k,rfl,rfl,gR,oA,aS,hk2,hm,HX⟩:=hrel;go_wp2_with fail
 go_loopg [9] hi (fun ky s wr2=>∃ i':Nat,s=yE yH i'∧i≤i'∧i'≤hi∧hi-i'≤ky∧Hid (Us b o n w wr2))
 case atStart=>exact⟨i,rfl,ye _,by omega,by omega,HX⟩
 obtain⟨i1,rfl,zZ,hi4,uH,HY⟩:=hrel;obtain⟨G1,hc1,uR⟩:=HY.o.u.iA;by_cases hlt:i1<k
 ·obtain⟨j,rfl⟩:∃ j,k=j+1:=⟨k-1,by omega⟩;have hj:((j+1:Nat):Int)-1=(j:Int):=by omega
  have vT:(j:Int)+1-1=(j:Int):=by omega
  have cD:(i1:Int)≤(j:Int):=by omega
  go_wp2_with fail;go_big_quiet (first | (go_at_call 403;refine zl (fB _ _ _)));have HZ:=yN (HY.o.drewN (q:=nq));go_wp2_with fail
  ·go_roundg (hi-(i1+1));case measure=>omega
   exact⟨i1+1,by congr 1,by omega,by omega,ye _,HZ⟩
  clear hc1 uR
  go_loopg [10] (j+1) (fun kz s pU=>∃ k':Nat,s=yE yH ((k':Int)-1)∧k'≤j+1∧lo+1≤k'∧k'≤kz∧Hid (Us b o n w pU))
  case atStart=>exact⟨j+1,by congr 1 <;> omega,ye _,by omega,ye _,HZ⟩
  obtain⟨k1,rfl,hk3,hk4,zV,cE⟩:=hrel;obtain⟨G2,hc2,hf2⟩:=cE.o.u.iA;by_cases vF:i1<k1
  ·obtain⟨j1,rfl⟩:∃ j1,k1=j1+1:=⟨k1-1,by omega⟩;have qZ:((j1+1:Nat):Int)-1=(j1:Int):=by omega
   have JB:(j1:Int)+1-1=(j1:Int):=by omega
   have aJY:(i1:Int)≤(j1:Int):=by omega
   go_wp2_with fail;go_big_quiet (first | (go_at_call 403;refine zl (fB _ _ _)));have jR:=yN (cE.o.drewN (q:=nq));go_wp2_with fail
   ·go_roundg j1;case measure=>omega
    exact⟨j1,by congr 1 <;> omega,by omega,by omega,ye _,jR⟩
   rcases (show i1=j1∨i1<j1 by omega) with rfl | hne
   all_goals
    go_region;go_wp2_with fail
   ·go_roundg ((hi-(i1+1))+i1);case measure=>omega
    exact⟨i1+1,i1,by congr 1 <;> omega,by congr 1 <;> omega,by omega,by omega,by omega,by omega,ye _,yN cE.o.drewN.put.put⟩
   go_roundg ((hi-(i1+1))+j1);case measure=>omega
   exact⟨i1+1,j1,by congr 1 <;> omega,by congr 1 <;> omega,by omega,by omega,by omega,by omega,ye _,yN cE.o.drewN.put.put⟩
  have iO:decide ((i1:Int)≤(k1:Int)-1)=false:=by simp;omega
  go_wp2_with fail;go_big_quiet (first | (go_at_call 403;refine zl (fB _ _ _)));have jR:=yN (cE.o.drewN (q:=nq));go_wp2_with fail;go_ret;exact⟨i1,rfl,by omega,by omega,jR.o⟩
 have hd:decide ((i1:Int)≤(k:Int)-1)=false:=by simp;omega
 go_wp2_with fail;go_big_quiet (first | (go_at_call 403;refine zl (fB _ _ _)));have HZ:=yN (HY.o.drewN (q:=nq));go_wp2_with fail
 go_loopg [10] (k) (fun kz s pU=>∃ k':Nat,s=yE yH ((k':Int)-1)∧k'≤k∧lo+1≤k'∧k'≤kz∧Hid (Us b o n w pU))
 case atStart=>exact⟨k,by congr 1 <;> omega,ye _,by omega,ye _,HZ⟩
 obtain⟨k1,rfl,hk3,hk4,zV,cE⟩:=hrel;obtain⟨G2,hc2,hf2⟩:=cE.o.u.iA;by_cases vF:i1<k1;·exact absurd vF (by omega)
 have iO:decide ((i1:Int)≤(k1:Int)-1)=false:=by simp;omega
 go_wp2_with fail;go_big_quiet (first | (go_at_call 403;refine zl (fB _ _ _)));have jR:=yN (cE.o.drewN (q:=nq));go_wp2_with fail;go_ret;exact⟨i1,rfl,by omega,by omega,jR.o⟩
theorem a4C (b o n cap lo hi pv:Nat) (w:World) (h:UR b o n w) (h1:lo<pv) (h2:pv<hi) (h3:hi≤n) (hn:n≤1000000) :
  Calls yM 405 #[yC (yP ⟨b,o,yO⟩) n cap,yE yH lo,yE yH hi,yE yH pv] w fun e w'=>∃ (x:Nat) (r:Bool),e = .returned (.tuple #[yE yH x,yD r])∧lo≤x∧x<hi∧Us b o n w w':=by
 obtain⟨G,hc,hf⟩:=h.iA;have HU:=yN (Us.start h);go_enter func405,ntmps405;go_wp2_with fail;all_goals
 go_region;go_wp2_with fail;have SP:∀ a v c z,Us b o n w ((w.drew.setCell ⟨b,a,yO⟩ (yE yI v)).setCell ⟨b,c,yO⟩ (yE yI z)):=fun _ _ _ _=>HU.o.drew.put.put;have HX:=yN SP;obtain⟨i,hii⟩:∃ i,i=lo+1:=⟨_,rfl⟩;obtain⟨k,cH⟩:∃ k,k=hi:=⟨_,rfl⟩;have gR:lo<i:=by omega
 have oA:i≤hi:=by omega
 have aS:k≤hi:=by omega
 have hk2:lo+1≤k:=by omega
 have HII:=yN (yd hii cH);have MV:(hi:Int)=(k:Int):=by omega
 rw [MV]
 go_loopg [10] hi (fun ky s wr2=>∃ i':Nat,s=yE yH i'∧i≤i'∧i'≤hi∧hi-i'≤ky∧Hid (Us b o n w wr2))
 case atStart=>exact⟨i,by rw [HII.o.1];congr 1 <;> omega,ye _,by omega,by omega,(yN (HX.o _ _ _ _))⟩
 obtain⟨i1,rfl,zZ,hi4,uH,HY⟩:=hrel;obtain⟨G1,hc1,uR⟩:=HY.o.u.iA;by_cases hlt:i1<k
 ·obtain⟨j,rfl⟩:∃ j,k=j+1:=⟨k-1,by omega⟩;have hj:((j+1:Nat):Int)-1=(j:Int):=by omega
  have vT:(j:Int)+1-1=(j:Int):=by omega
  have cD:(i1:Int)≤(j:Int):=by omega
  go_wp2_with fail;go_big_quiet (first | (go_at_call 403;refine zl (fB _ _ _)));have HZ:=yN (HY.o.drewN (q:=nq));go_wp2_with fail
  ·go_roundg (hi-(i1+1));case measure=>omega
   exact⟨i1+1,by congr 1,by omega,by omega,ye _,HZ⟩
  clear hc1 uR
  go_loopg [11] (j+1) (fun kz s pU=>∃ k':Nat,s=yE yH ((k':Int)-1)∧k'≤j+1∧lo+1≤k'∧k'≤kz∧Hid (Us b o n w pU))
  case atStart=>exact⟨j+1,by congr 1 <;> omega,ye _,by omega,ye _,HZ⟩
  obtain⟨k1,rfl,hk3,hk4,zV,cE⟩:=hrel;obtain⟨G2,hc2,hf2⟩:=cE.o.u.iA;by_cases vF:i1<k1
  ·obtain⟨j1,rfl⟩:∃ j1,k1=j1+1:=⟨k1-1,by omega⟩;have qZ:((j1+1:Nat):Int)-1=(j1:Int):=by omega
   have JB:(j1:Int)+1-1=(j1:Int):=by omega
   have aJY:(i1:Int)≤(j1:Int):=by omega
   go_wp2_with fail;go_big_quiet (first | (go_at_call 403;refine zl (fB _ _ _)));have jR:=yN (cE.o.drewN (q:=nq));go_wp2_with fail
   ·go_roundg j1;case measure=>omega
    exact⟨j1,by congr 1 <;> omega,by omega,by omega,ye _,jR⟩
   rcases (show i1=j1∨i1<j1 by omega) with hee | hne
   all_goals
    try subst hee
    go_region;go_wp2_with fail;have HV:=yN (fun a v c z=>(cE.o.drewN (q:=nq+1)).put (t:=a) (x:=v) |>.put (t:=c) (x:=z))
    go_loopg [10,11] (hi+hi) (fun kx s9 cK wr=>∃ i k:Nat,s9=yE yH i∧cK=yE yH ((k:Int)-1)∧lo<i∧i≤hi∧k≤hi∧lo+1≤k∧(hi-i)+k≤kx∧Hid (Us b o n w wr))
    case atStart=>first | exact⟨i1+1,j1,by congr 1,by congr 1 <;> omega,by omega,by omega,by omega,by omega,by omega,yN (HV.o _ _ _ _)⟩ | exact⟨i1+1,i1,by congr 1,by congr 1 <;> omega,by omega,by omega,by omega,by omega,by omega,yN (HV.o _ _ _ _)⟩
    obtain⟨i,k,rfl,rfl,gR,oA,aS,hk2,hm,HX⟩:=hrel;go_wp2_with fail
    go_loopg [10] hi (fun ky s wr2=>∃ i':Nat,s=yE yH i'∧i≤i'∧i'≤hi∧hi-i'≤ky∧Hid (Us b o n w wr2))
    case atStart=>exact⟨i,rfl,ye _,by omega,by omega,HX⟩
    obtain⟨i1,rfl,zZ,hi4,uH,HY⟩:=hrel;obtain⟨G1,hc1,uR⟩:=HY.o.u.iA;by_cases hlt:i1<k
    ·obtain⟨j,rfl⟩:∃ j,k=j+1:=⟨k-1,by omega⟩;have hj:((j+1:Nat):Int)-1=(j:Int):=by omega
     have vT:(j:Int)+1-1=(j:Int):=by omega
     have cD:(i1:Int)≤(j:Int):=by omega
     go_wp2_with fail;go_big_quiet (first | (go_at_call 403;refine zl (fB _ _ _)));have HZ:=yN (HY.o.drewN (q:=nq));go_wp2_with fail
     ·go_roundg (hi-(i1+1));case measure=>omega
      exact⟨i1+1,by congr 1,by omega,by omega,ye _,HZ⟩
     clear hc1 uR
     go_loopg [11] (j+1) (fun kz s pU=>∃ k':Nat,s=yE yH ((k':Int)-1)∧k'≤j+1∧lo+1≤k'∧k'≤kz∧Hid (Us b o n w pU))
     case atStart=>exact⟨j+1,by congr 1 <;> omega,ye _,by omega,ye _,HZ⟩
     obtain⟨k1,rfl,hk3,hk4,zV,cE⟩:=hrel;obtain⟨G2,hc2,hf2⟩:=cE.o.u.iA;by_cases vF:i1<k1
     ·obtain⟨j1,rfl⟩:∃ j1,k1=j1+1:=⟨k1-1,by omega⟩;have qZ:((j1+1:Nat):Int)-1=(j1:Int):=by omega
      have JB:(j1:Int)+1-1=(j1:Int):=by omega
      have aJY:(i1:Int)≤(j1:Int):=by omega
      go_wp2_with fail;go_big_quiet (first | (go_at_call 403;refine zl (fB _ _ _)));have jR:=yN (cE.o.drewN (q:=nq));go_wp2_with fail
      ·go_roundg j1;case measure=>omega
       exact⟨j1,by congr 1 <;> omega,by omega,by omega,ye _,jR⟩
      rcases (show i1=j1∨i1<j1 by omega) with rfl | hne
      all_goals
       go_region;go_wp2_with fail
      ·go_roundg ((hi-(i1+1))+i1);case measure=>omega
       exact⟨i1+1,i1,by congr 1 <;> omega,by congr 1 <;> omega,by omega,by omega,by omega,by omega,ye _,yN cE.o.drewN.put.put⟩
      go_roundg ((hi-(i1+1))+j1);case measure=>omega
      exact⟨i1+1,j1,by congr 1 <;> omega,by congr 1 <;> omega,by omega,by omega,by omega,by omega,ye _,yN cE.o.drewN.put.put⟩
     have iO:decide ((i1:Int)≤(k1:Int)-1)=false:=by simp;omega
     go_wp2_with fail;go_big_quiet (first | (go_at_call 403;refine zl (fB _ _ _)));have jR:=yN (cE.o.drewN (q:=nq));go_wp2_with fail;obtain⟨j1,rfl⟩:∃ j1,k1=j1+1:=⟨k1-1,by omega⟩;have qZ:((j1+1:Nat):Int)-1=(j1:Int):=by omega
     have JB:(j1:Int)+1-1=(j1:Int):=by omega
     rcases (show j1=lo∨lo<j1 by omega) with rfl | hne
     all_goals
      go_region;go_wp2_with fail;go_ret2;exact⟨j1,false,by first | rfl | (show Ending.returned (.tuple #[yE yH (((j1+1:Nat):Int)-1),yD false])=_;rw [qZ]),by omega,by omega,cE.o.drewN.put.put⟩
    have hd:decide ((i1:Int)≤(k:Int)-1)=false:=by simp;omega
    go_wp2_with fail;go_big_quiet (first | (go_at_call 403;refine zl (fB _ _ _)));have HZ:=yN (HY.o.drewN (q:=nq));go_wp2_with fail
    go_loopg [11] (k) (fun kz s pU=>∃ k':Nat,s=yE yH ((k':Int)-1)∧k'≤k∧lo+1≤k'∧k'≤kz∧Hid (Us b o n w pU))
    case atStart=>exact⟨k,by congr 1 <;> omega,ye _,by omega,ye _,HZ⟩
    obtain⟨k1,rfl,hk3,hk4,zV,cE⟩:=hrel;obtain⟨G2,hc2,hf2⟩:=cE.o.u.iA;by_cases vF:i1<k1;·exact absurd vF (by omega)
    have iO:decide ((i1:Int)≤(k1:Int)-1)=false:=by simp;omega
    go_wp2_with fail;go_big_quiet (first | (go_at_call 403;refine zl (fB _ _ _)));have jR:=yN (cE.o.drewN (q:=nq));go_wp2_with fail;obtain⟨j1,rfl⟩:∃ j1,k1=j1+1:=⟨k1-1,by omega⟩;have qZ:((j1+1:Nat):Int)-1=(j1:Int):=by omega
    have JB:(j1:Int)+1-1=(j1:Int):=by omega
    rcases (show j1=lo∨lo<j1 by omega) with rfl | hne
    all_goals
     go_region;go_wp2_with fail;go_ret2;exact⟨j1,false,by first | rfl | (show Ending.returned (.tuple #[yE yH (((j1+1:Nat):Int)-1),yD false])=_;rw [qZ]),by omega,by omega,cE.o.drewN.put.put⟩
  have iO:decide ((i1:Int)≤(k1:Int)-1)=false:=by simp;omega
  go_wp2_with fail;go_big_quiet (first | (go_at_call 403;refine zl (fB _ _ _)));have jR:=yN (cE.o.drewN (q:=nq));go_wp2_with fail;obtain⟨j1,rfl⟩:∃ j1,k1=j1+1:=⟨k1-1,by omega⟩;have qZ:((j1+1:Nat):Int)-1=(j1:Int):=by omega
  have JB:(j1:Int)+1-1=(j1:Int):=by omega
  rcases (show j1=lo∨lo<j1 by omega) with rfl | hne
  all_goals
   go_region;go_wp2_with fail;go_ret2;exact⟨j1,true,by first | rfl | (show Ending.returned (.tuple #[yE yH (((j1+1:Nat):Int)-1),yD true])=_;rw [qZ]),by omega,by omega,cE.o.drewN.put.put⟩
 have hd:decide ((i1:Int)≤(k:Int)-1)=false:=by simp;omega
 go_wp2_with fail;go_big_quiet (first | (go_at_call 403;refine zl (fB _ _ _)));have HZ:=yN (HY.o.drewN (q:=nq));go_wp2_with fail
 go_loopg [11] (k) (fun kz s pU=>∃ k':Nat,s=yE yH ((k':Int)-1)∧k'≤k∧lo+1≤k'∧k'≤kz∧Hid (Us b o n w pU))
 case atStart=>exact⟨k,by congr 1 <;> omega,ye _,by omega,ye _,HZ⟩
 obtain⟨k1,rfl,hk3,hk4,zV,cE⟩:=hrel;obtain⟨G2,hc2,hf2⟩:=cE.o.u.iA;by_cases vF:i1<k1;·exact absurd vF (by omega)
 have iO:decide ((i1:Int)≤(k1:Int)-1)=false:=by simp;omega
 go_wp2_with fail;go_big_quiet (first | (go_at_call 403;refine zl (fB _ _ _)));have jR:=yN (cE.o.drewN (q:=nq));go_wp2_with fail;obtain⟨j1,rfl⟩:∃ j1,k1=j1+1:=⟨k1-1,by omega⟩;have qZ:((j1+1:Nat):Int)-1=(j1:Int):=by omega
 have JB:(j1:Int)+1-1=(j1:Int):=by omega
 rcases (show j1=lo∨lo<j1 by omega) with rfl | hne
 all_goals
  go_region;go_wp2_with fail;go_ret2;exact⟨j1,true,by first | rfl | (show Ending.returned (.tuple #[yE yH (((j1+1:Nat):Int)-1),yD true])=_;rw [qZ]),by omega,by omega,cE.o.drewN.put.put⟩
end
section
variable {w w':World} {s:Nat}
structure Ct (s:Nat) (w w':World):Prop where
 c:∃ x:Int,w'.heap[s]?=yP (yL #[yE yH x] 3)
 o:Om s w w'
theorem Ct.cell {s:Nat} {w w':World} (h:Ct s w w'):∃ x:Int,w'.cell? ⟨s,0,yO⟩=yP (yE yH x)∧w'.frozen? ⟨s,0,yO⟩=false:=by
 obtain⟨x,hx⟩:=h.c;exact⟨x,aG hx rfl,aU hx⟩
theorem Ct.put {s:Nat} {w w':World} (h:Ct s w w') {x:Int} : Ct s w (w'.setCell ⟨s,0,yO⟩ (yE yH x)):=by
 obtain⟨y,hy⟩:=h.c;exact⟨⟨x,heap_setCell hy⟩,h.o.put⟩
theorem Ct.drewN {s q:Nat} {w w':World} (h:Ct s w w'):Ct s w (w'.drewN q):=⟨h.c,h.o.drewN⟩
theorem Ct.then {w2:World} (h:Ct s w w') (g:Ct s w' w2):Ct s w w2:=⟨g.c,h.o.trans g.o⟩
theorem Ct.ur {b o n:Nat} (h:Ct s w w') (hu:UR b o n w) (hne:b≠s):UR b o n w':=by
 obtain⟨cs,h1,h2⟩:=hu;exact⟨cs,(h.o.same b (yo.1 h1).1 hne).trans h1,h2⟩
theorem V9 (b o n cap s i j:Nat) (w:World) (h:UR b o n w) (hs:∃ x:Int,w.heap[s]?=yP (yL #[yE yH x] 3)) (h1:i<n) (h2:j<n) (hn:n≤1000000) :
  Calls yM 439 #[yC (yP ⟨b,o,yO⟩) n cap,yE yH i,yE yH j,yB (yP ⟨s,0,yO⟩)] w fun e w'=>∃ x y:Nat,e = .returned (.tuple #[yE yH x,yE yH y])∧((x=i∧y=j)∨(x=j∧y=i))∧Ct s w w':=by
 have HU:=yN (Us.start h);have HC:Hid (Ct s w w):=yN ⟨hs,Om.refl s w⟩;obtain⟨G,hc,hf⟩:=h.iA;go_enter func439,ntmps439;go_wp2_with fail;go_big_quiet (first | (go_at_call 403;refine zl (fB _ _ _)));have bK:=yN (HC.o.drewN (q:=nq));generalize w.drewN nq=w2 at *;obtain⟨x,hx,hxf⟩:=bK.o.cell;go_wp2_with fail
 ·go_ret2;exact⟨j,i,rfl,.inr ⟨rfl,rfl⟩,bK.o.put⟩
 go_ret2;exact⟨i,j,rfl,.inl ⟨rfl,rfl⟩,bK.o⟩
theorem WG (b o n cap s i j k:Nat) (w:World) (h:UR b o n w) (hne:b≠s) (hs:∃ x:Int,w.heap[s]?=yP (yL #[yE yH x] 3)) (h1:i<n) (h2:j<n) (h3:k<n) (hn:n≤1000000) :
  Calls yM 429 #[yC (yP ⟨b,o,yO⟩) n cap,yE yH i,yE yH j,yE yH k,yB (yP ⟨s,0,yO⟩)] w fun e w'=>∃ x:Nat,e = .returned (yE yH x)∧(x=i∨x=j∨x=k)∧Ct s w w':=by
 have HU:=yN h;have HS:=yN hs;go_enter func429,ntmps429;go_wp2_with fail;refine (V9 b o n cap s i j w HU.o HS.o h1 h2 hn).mono ?_;rintro e w2 ⟨x,y,rfl,zJ,hc⟩;have bK:=yN hc;go_wp2_with fail;refine (V9 b o n cap s y k w2 (bK.o.ur HU.o hne) bK.o.c (by omega) h3 hn).mono ?_;rintro e w3 ⟨x3,y3,rfl,bHK,hc⟩;have kC:=yN (bK.o.then hc);go_wp2_with fail;refine (V9 b o n cap s x x3 w3 (kC.o.ur HU.o hne) kC.o.c (by omega) (by omega) hn).mono ?_;rintro e w4 ⟨x4,y4,rfl,bHL,hc⟩;have jH:=yN (kC.o.then hc);go_wp2_with fail;go_ret;exact⟨y4,rfl,by omega,jH.o⟩
theorem WH (b o n cap s i:Nat) (w:World) (h:UR b o n w) (hne:b≠s) (hs:∃ x:Int,w.heap[s]?=yP (yL #[yE yH x] 3)) (h0:1≤i) (h1:i+1<n) (hn:n≤1000000) :
  Calls yM 428 #[yC (yP ⟨b,o,yO⟩) n cap,yE yH i,yB (yP ⟨s,0,yO⟩)] w fun e w'=>∃ x:Nat,e = .returned (yE yH x)∧(i≤x+1∧x≤i+1)∧Ct s w w':=by
 have HM:=yN (WG b o n cap s (i-1) i (i+1) w h hne hs (by omega) (by omega) h1 hn);rw [show ((i-1:Nat):Int)=(i:Int)-1 by omega,show ((i+1:Nat):Int)=(i:Int)+1 by omega] at HM;go_enter func428,ntmps428;go_wp2_with fail;refine HM.o.mono ?_;rintro e w2 ⟨x,rfl,hx,hc⟩;have HC:=yN hc;go_wp2_with fail;go_ret;exact⟨x,rfl,by omega,HC.o⟩
theorem a6J (b o n cap lo hi:Nat) (w:World) (h:UR b o n w) (h1:lo<hi) (h2:hi≤n) (hn:n≤1000000) :
  Calls yM 400 #[yC (yP ⟨b,o,yO⟩) n cap,yE yH lo,yE yH hi] w fun e w'=>∃ (x:Nat) (y:Int),e = .returned (.tuple #[yE yH x,yE yH y])∧lo≤x∧x<hi∧(8≤hi-lo→lo<x∧x+1<hi)∧Us b o n w w':=by
 have hb:b<w.heap.size:=by obtain⟨cs,h3,_⟩:=h;exact (yo.1 h3).1
 obtain⟨len,rfl⟩:∃ len,hi=lo+len:=⟨hi-lo,by omega⟩;have hd:(lo:Int)+(len:Int)-(lo:Int)=(len:Int):=by omega
 have hd':((lo+len:Nat):Int)-(lo:Int)=(len:Int):=by omega
 obtain⟨q,hqq⟩:∃ q,q=len / 4:=⟨_,rfl⟩;have hq:Int.tdiv (len:Int) 4=(q:Int):=by rw [Int.tdiv_eq_ediv_of_nonneg (by omega)];omega
 have eY:(len:Int) / 4=(q:Int):=by omega
 have NM:4*q≤len∧len<4*q+4:=by omega
 have aA:Kept w (w.alloc (yL #[yE yH 0] 3)):=(yk _ w).alloc (ye _) _;have aO:=bM w (yL #[yE yH 0] 3);obtain⟨s,hs⟩:∃ s,s=w.heap.size:=⟨_,rfl⟩;have HU:=yN h;have hu1:UR b o n (w.alloc (yL #[yE yH 0] 3)):=by
  obtain⟨cs,h3,h4⟩:=h;exact⟨cs,(aA.block b hb).trans h3,h4⟩
 rw [← hs] at aO;have oD:b≠s:=by omega
 have HA:=yN (yd (yd hu1 (Sm.kept (S:=fun i=>i=b) aA)) (yd aO hs));clear h aA aO hb hqq hu1;have kL:∀ w2,Ct s (w.alloc (yL #[yE yH 0] 3)) w2→Us b o n w w2:=fun w2 hc=>⟨hc.ur HA.o.1.1 oD,⟨hc.o.os.trans HA.o.1.2.os,hc.o.tape.trans HA.o.1.2.tape,hc.o.output.trans HA.o.1.2.output,yf HA.o.1.2.size hc.o.size,fun i hi hne=>(hc.o.same i (yi hi HA.o.1.2.size) (by have:=HA.o.2.2;omega)).trans (HA.o.1.2.same i hi hne)⟩⟩;have HF:=yN kL;have gL:Hid (Ct s (w.alloc (yL #[yE yH 0] 3)) (w.alloc (yL #[yE yH 0] 3))):=yN ⟨⟨0,HA.o.2.1⟩,Om.refl _ _⟩;clear kL;by_cases h8:8≤len
 ·have h8':(8:Int)≤(len:Int):=by omega
  by_cases h50:50≤len
  ·have Z0:(50:Int)≤(len:Int):=by omega
   go_enter func400,ntmps400;go_wp2_with fail;rw [← hs];generalize w.alloc _=w1 at *;clear hs;have jQ:=WH b o n cap s (lo+q) w1 HA.o.1.1 oD ⟨0,HA.o.2.1⟩ (by omega) (by omega) hn;rw [show ((lo+q:Nat):Int)=(lo:Int)+(q:Int) by omega] at jQ;refine jQ.mono ?_;clear jQ;rintro e w2 ⟨x1,rfl,hx1,hc⟩;have bK:=yN hc;clear hc;go_wp2_with fail;have jQ:=WH b o n cap s (lo+q*2) w2 (bK.o.ur HA.o.1.1 oD) oD bK.o.c (by omega) (by omega) hn;rw [show ((lo+q*2:Nat):Int)=(lo:Int)+(q:Int)*2 by omega] at jQ;refine jQ.mono ?_;clear jQ;rintro e w3 ⟨x2,rfl,hx2,hc⟩;have kC:=yN (bK.o.then hc);clear hc;go_wp2_with fail;have jQ:=WH b o n cap s (lo+q*3) w3 (kC.o.ur HA.o.1.1 oD) oD kC.o.c (by omega) (by omega) hn;rw [show ((lo+q*3:Nat):Int)=(lo:Int)+(q:Int)*3 by omega] at jQ;refine jQ.mono ?_;clear jQ;rintro e w4 ⟨x3,rfl,hx3,hc⟩;have jH:=yN (kC.o.then hc);clear hc;go_wp2_with fail;refine (WG b o n cap s x1 x2 x3 w4 (jH.o.ur HA.o.1.1 oD) oD jH.o.c (by omega) (by omega) (by omega) hn).mono ?_;rintro e w5 ⟨y,rfl,hy,hc⟩;have nN:=yN (jH.o.then hc);clear hc;obtain⟨x,hx,hxf⟩:=nN.o.cell;have kM:=yN (HF.o _ nN.o);by_cases e0:x=0
   ·have hb:(x == 0)=true:=by simp [e0]
    go_wp2_with fail;go_ret2;exact⟨y,_,rfl,by omega,by omega,fun _=>by omega,kM.o⟩
   have hb:(x == 0)=false:=by simp [e0]
   by_cases e1:x=12
   ·have hb1:(x == 12)=true:=by simp [e1]
    go_wp2_with fail;go_ret2;exact⟨y,_,rfl,by omega,by omega,fun _=>by omega,kM.o⟩
   have hb1:(x == 12)=false:=by simp [e1]
   go_wp2_with fail;go_ret2;exact⟨y,_,rfl,by omega,by omega,fun _=>by omega,kM.o⟩
  have Z0:¬ (50:Int)≤(len:Int):=by omega
  go_enter func400,ntmps400;go_wp2_with fail;rw [← hs];generalize w.alloc _=w1 at *;clear hs;have jQ:=WG b o n cap s (lo+q) (lo+q*2) (lo+q*3) w1 HA.o.1.1 oD ⟨0,HA.o.2.1⟩ (by omega) (by omega) (by omega) hn;rw [show ((lo+q:Nat):Int)=(lo:Int)+(q:Int) by omega,show ((lo+q*2:Nat):Int)=(lo:Int)+(q:Int)*2 by omega,show ((lo+q*3:Nat):Int)=(lo:Int)+(q:Int)*3 by omega] at jQ;refine jQ.mono ?_;clear jQ;rintro e w5 ⟨y,rfl,hy,hc⟩;have nN:=yN hc;clear hc;obtain⟨x,hx,hxf⟩:=nN.o.cell;have kM:=yN (HF.o _ nN.o);by_cases e0:x=0
  ·have hb:(x == 0)=true:=by simp [e0]
   go_wp2_with fail;go_ret2;exact⟨y,_,rfl,by omega,by omega,fun _=>by omega,kM.o⟩
  have hb:(x == 0)=false:=by simp [e0]
  by_cases e1:x=12
  ·have hb1:(x == 12)=true:=by simp [e1]
   go_wp2_with fail;go_ret2;exact⟨y,_,rfl,by omega,by omega,fun _=>by omega,kM.o⟩
  have hb1:(x == 12)=false:=by simp [e1]
  go_wp2_with fail;go_ret2;exact⟨y,_,rfl,by omega,by omega,fun _=>by omega,kM.o⟩
 have h8':¬ (8:Int)≤(len:Int):=by omega
 go_enter func400,ntmps400;go_wp2_with fail;go_ret2
 first
  | exact⟨lo+q*2,by first | rfl | simp,by omega,by omega,fun _=>by omega,HF.o _ gL.o⟩
  | exact⟨lo+q*2,by first | rfl | simp,by omega,by omega,HF.o _ gL.o⟩
end
section
theorem aJC (b o n cap lo hi:Nat) (w:World) (h:UR b o n w) (h1:lo<hi) (h2:hi≤n) (hn:n≤1000000) :
  Calls yM 402 #[yC (yP ⟨b,o,yO⟩) n cap,yE yH lo,yE yH hi] w fun e w'=>∃ r:Bool,e = .returned (yD r)∧Us b o n w w':=by
 have HU:=yN (Us.start h);go_enter func402,ntmps402;go_wp2_with fail
 go_loopg [7,8] 6 (fun kx s7 s8 wr=>∃ i c:Nat,s7=yE yH i∧s8=yE yH c∧lo<i∧i≤hi∧c≤5∧5-c≤kx∧Hid (Us b o n w wr))
 case atStart=>exact⟨lo+1,0,by congr 1,rfl,by omega,by omega,by omega,by omega,HU⟩
 obtain⟨i,c,rfl,rfl,gR,oA,hj,hm,HX⟩:=hrel;by_cases hlt:c<5
 ·have cD:(c:Int)<5:=by omega
  go_wp2_with fail
  go_loopg [7] hi (fun ky s7 wr2=>∃ i1:Nat,s7=yE yH i1∧lo<i1∧i1≤hi∧hi-i1≤ky∧Hid (Us b o n w wr2))
  case atStart=>exact⟨i,rfl,gR,oA,by omega,HX⟩
  obtain⟨i1,rfl,zZ,hi4,uH,HY⟩:=hrel;obtain⟨G1,hc1,uR⟩:=HY.o.u.iA;by_cases hli:i1<hi
  ·have bHM:(i1:Int)<(hi:Int):=by omega
   have hne:((i1:Int) == (hi:Int))=false:=by simp;omega
   have hnd:decide ((i1:Int)=(hi:Int))=false:=by simp;omega
   by_cases h50:hi-lo<50
   ·have Z0:(hi:Int)-(lo:Int)<50:=by omega
    go_wp2_with fail;go_big_quiet (first | (go_at_call 403;refine zl (fB _ _ _)));have HZ:=yN (HY.o.drewN (q:=nq));go_wp2_with fail
    ·go_roundg (hi-(i1+1));case measure=>omega
     exact⟨i1+1,by congr 1,by omega,by omega,ye _,HZ⟩
    go_ret;exact⟨false,rfl,HZ.o⟩
   have Z0:¬ (hi:Int)-(lo:Int)<50:=by omega
   go_wp2_with fail;go_big_quiet (first | (go_at_call 403;refine zl (fB _ _ _)));have HZ:=yN (HY.o.drewN (q:=nq));go_wp2_with fail
   ·go_roundg (hi-(i1+1));case measure=>omega
    exact⟨i1+1,by congr 1,by omega,by omega,ye _,HZ⟩
   go_region;by_cases hA:2≤i1-lo
   ·by_cases hB:2≤hi-i1
    ·have hA':(2:Int)≤(i1:Int)-(lo:Int):=by omega
     have hB':(2:Int)≤(hi:Int)-(i1:Int):=by omega
     go_wp2_with fail
     go_loopg [9] hi (fun kz s9 pU=>∃ j:Nat,s9=yE yH j∧j+1≤i1∧j≤kz∧Hid (Us b o n w pU))
     case atStart=>exact⟨i1-1,by congr 1 <;> omega,by omega,by omega,(yN HY.o.drewN.put.put)⟩
     obtain⟨j,rfl,lW,zV,HA⟩:=hrel;obtain⟨G3,hc3,hf3⟩:=HA.o.u.iA;by_cases JA:1≤j
     ·have vI:(1:Int)≤(j:Int):=by omega
      go_wp2_with fail;go_big_quiet (first | (go_at_call 403;refine zl (fB _ _ _)));have HC:=yN (HA.o.drewN (q:=nq));go_wp2_with fail
      ·clear hc3 hf3 JA vI lW
       go_loopg [10] hi (fun kz cK OW=>∃ j:Nat,cK=yE yH j∧i1+1≤j∧j≤hi∧hi-j≤kz∧Hid (Us b o n w OW))
       case atStart=>exact⟨i1+1,by congr 1,ye _,by omega,by omega,HC⟩
       obtain⟨j,rfl,lW,vT,hm4,HB⟩:=hrel;obtain⟨G4,S5,hf4⟩:=HB.o.u.iA;by_cases JA:j<hi
       ·have vI:(j:Int)<(hi:Int):=by omega
        go_wp2_with fail;go_big_quiet (first | (go_at_call 403;refine zl (fB _ _ _)));have HE:=yN (HB.o.drewN (q:=nq));go_wp2_with fail
        ·go_roundg (5-(c+1));case measure=>omega
         exact⟨i1,c+1,rfl,by congr 1,by omega,by omega,by omega,ye _,HE⟩
        go_region;go_wp2_with fail;go_roundg (hi-(j+1));case measure=>omega
        exact⟨j+1,by congr 1,by omega,by omega,ye _,yN HB.o.drewN.put.put⟩
       have vI:¬ (j:Int)<(hi:Int):=by omega
       go_wp2_with fail;go_roundg (5-(c+1));case measure=>omega
       exact⟨i1,c+1,rfl,by congr 1,by omega,by omega,by omega,ye _,HB⟩
      go_region;go_wp2_with fail;go_roundg (j-1);case measure=>omega
      exact⟨j-1,by congr 1 <;> omega,by omega,ye _,yN HA.o.drewN.put.put⟩
     have vI:¬ (1:Int)≤(j:Int):=by omega
     go_wp2_with fail
     go_loopg [10] hi (fun kz cK OW=>∃ j:Nat,cK=yE yH j∧i1+1≤j∧j≤hi∧hi-j≤kz∧Hid (Us b o n w OW))
     case atStart=>exact⟨i1+1,by congr 1,ye _,by omega,by omega,HA⟩
     obtain⟨j,rfl,lW,vT,hm4,HB⟩:=hrel;obtain⟨G4,S5,hf4⟩:=HB.o.u.iA;by_cases JA:j<hi
     ·have vI:(j:Int)<(hi:Int):=by omega
      go_wp2_with fail;go_big_quiet (first | (go_at_call 403;refine zl (fB _ _ _)));have HE:=yN (HB.o.drewN (q:=nq));go_wp2_with fail
      ·go_roundg (5-(c+1));case measure=>omega
       exact⟨i1,c+1,rfl,by congr 1,by omega,by omega,by omega,ye _,HE⟩
      go_region;go_wp2_with fail;go_roundg (hi-(j+1));case measure=>omega
      exact⟨j+1,by congr 1,by omega,by omega,ye _,yN HB.o.drewN.put.put⟩
     have vI:¬ (j:Int)<(hi:Int):=by omega
     go_wp2_with fail;go_roundg (5-(c+1));case measure=>omega
     exact⟨i1,c+1,rfl,by congr 1,by omega,by omega,by omega,ye _,HB⟩
    have hA':(2:Int)≤(i1:Int)-(lo:Int):=by omega
    have hB':¬ (2:Int)≤(hi:Int)-(i1:Int):=by omega
    go_wp2_with fail
    go_loopg [9] hi (fun kz s9 pU=>∃ j:Nat,s9=yE yH j∧j+1≤i1∧j≤kz∧Hid (Us b o n w pU))
    case atStart=>exact⟨i1-1,by congr 1 <;> omega,by omega,by omega,(yN HY.o.drewN.put.put)⟩
    obtain⟨j,rfl,lW,zV,HA⟩:=hrel;obtain⟨G3,hc3,hf3⟩:=HA.o.u.iA;by_cases JA:1≤j
    ·have vI:(1:Int)≤(j:Int):=by omega
     go_wp2_with fail;go_big_quiet (first | (go_at_call 403;refine zl (fB _ _ _)));have HC:=yN (HA.o.drewN (q:=nq));go_wp2_with fail
     ·clear hc3 hf3 JA vI lW;go_roundg (5-(c+1));case measure=>omega
      exact⟨i1,c+1,rfl,by congr 1,by omega,by omega,by omega,ye _,HC⟩
     go_region;go_wp2_with fail;go_roundg (j-1);case measure=>omega
     exact⟨j-1,by congr 1 <;> omega,by omega,ye _,yN HA.o.drewN.put.put⟩
    have vI:¬ (1:Int)≤(j:Int):=by omega
    go_wp2_with fail;go_roundg (5-(c+1));case measure=>omega
    exact⟨i1,c+1,rfl,by congr 1,by omega,by omega,by omega,ye _,HA⟩
   by_cases hB:2≤hi-i1
   ·have hA':¬ (2:Int)≤(i1:Int)-(lo:Int):=by omega
    have hB':(2:Int)≤(hi:Int)-(i1:Int):=by omega
    go_wp2_with fail
    go_loopg [10] hi (fun kz cK OW=>∃ j:Nat,cK=yE yH j∧i1+1≤j∧j≤hi∧hi-j≤kz∧Hid (Us b o n w OW))
    case atStart=>exact⟨i1+1,by congr 1,ye _,by omega,by omega,(yN HY.o.drewN.put.put)⟩
    obtain⟨j,rfl,lW,vT,hm4,HB⟩:=hrel;obtain⟨G4,S5,hf4⟩:=HB.o.u.iA;by_cases JA:j<hi
    ·have vI:(j:Int)<(hi:Int):=by omega
     go_wp2_with fail;go_big_quiet (first | (go_at_call 403;refine zl (fB _ _ _)));have HE:=yN (HB.o.drewN (q:=nq));go_wp2_with fail
     ·go_roundg (5-(c+1));case measure=>omega
      exact⟨i1,c+1,rfl,by congr 1,by omega,by omega,by omega,ye _,HE⟩
     go_region;go_wp2_with fail;go_roundg (hi-(j+1));case measure=>omega
     exact⟨j+1,by congr 1,by omega,by omega,ye _,yN HB.o.drewN.put.put⟩
    have vI:¬ (j:Int)<(hi:Int):=by omega
    go_wp2_with fail;go_roundg (5-(c+1));case measure=>omega
    exact⟨i1,c+1,rfl,by congr 1,by omega,by omega,by omega,ye _,HB⟩
   have hA':¬ (2:Int)≤(i1:Int)-(lo:Int):=by omega
   have hB':¬ (2:Int)≤(hi:Int)-(i1:Int):=by omega
   go_wp2_with fail;go_roundg (5-(c+1));case measure=>omega
   exact⟨i1,c+1,rfl,by congr 1,by omega,by omega,by omega,ye _,(yN HY.o.drewN.put.put)⟩
  have hie:i1=hi:=by omega
  subst hie;go_wp2_with fail;go_big_quiet (first | (go_at_call 403;refine zl (fB _ _ _)));have HZ:=yN (HY.o.drewN (q:=nq));go_wp2_with fail;go_ret;exact⟨true,rfl,HZ.o⟩
 have cD:¬ (c:Int)<5:=by omega
 go_wp2_with fail;go_ret;exact⟨.inl rfl,HX.o⟩
end
section
theorem XS (b o n cap lo hi first:Nat) (w:World) (h:UR b o n w) (h1:lo≤n) (h2:first+hi≤n) (hn:n≤1000000) :
  Calls yM 427 #[yC (yP ⟨b,o,yO⟩) n cap,yE yH lo,yE yH hi,yE yH first] w fun e w'=>e = .returned (.tuple #[])∧Us b o n w w':=by
 have HU:=yN (Us.start h);clear h;go_enter func427,ntmps427;go_wp2_with fail
 go_loopg [8,9] (n+n) (fun kx s8 s9 wr=>∃ r:Nat,s8=yE yH r∧r≤n∧n+n-r≤kx∧Hid (Us b o n w wr))
 case atStart=>exact⟨lo,rfl,h1,by omega,HU⟩
 obtain⟨r,rfl,hr1,hm,HX⟩:=hrel;obtain⟨G,hc,hf⟩:=HX.o.u.iA;by_cases hlt:2*r+1<hi
 ·have cD:¬ (hi:Int)≤2*(r:Int)+1:=by omega
  go_wp2_with fail;by_cases h3:2*r+1+1<hi
  ·have MO:2*(r:Int)+1+1<(hi:Int):=by omega
   go_big_quiet (first | (go_at_call 403;refine zl (fB _ _ _)));go_wp2_with fail
   ·have cE:=yN (HX.o.drewN (q:=nq));generalize wr.drewN nq=w2 at *;clear hc hf;obtain⟨G2,hc2,hf2⟩:=cE.o.u.iA;go_big_quiet (first | (go_at_call 403;refine zl (fB _ _ _)));go_wp2_with fail;·refine bodyPost_ret (results_none rfl _ _ _) rfl ?_;exact⟨rfl,cE.o.drewN⟩
    go_region;all_goals go_wp2_with fail
    go_roundg (n+n-(2*r+1+1));case measure=>omega
    exact⟨2*r+1+1,by congr 1,by omega,by omega,yN cE.o.drewN.put.put⟩
   have cE:=yN (HX.o.drewN (q:=nq));generalize wr.drewN nq=w2 at *;clear hc hf;obtain⟨G2,hc2,hf2⟩:=cE.o.u.iA;go_big_quiet (first | (go_at_call 403;refine zl (fB _ _ _)));go_wp2_with fail;·refine bodyPost_ret (results_none rfl _ _ _) rfl ?_;exact⟨rfl,cE.o.drewN⟩
   go_region;all_goals go_wp2_with fail
   go_roundg (n+n-(2*r+1));case measure=>omega
   exact⟨2*r+1,by congr 1,by omega,by omega,yN cE.o.drewN.put.put⟩
  have MO:¬ 2*(r:Int)+1+1<(hi:Int):=by omega
  go_big_quiet (first | (go_at_call 403;refine zl (fB _ _ _)));go_wp2_with fail
  focus
   have cE:=yN (HX.o.drewN (q:=nq));generalize wr.drewN nq=w2 at *;clear hc hf;obtain⟨G2,hc2,hf2⟩:=cE.o.u.iA;go_big_quiet (first | (go_at_call 403;refine zl (fB _ _ _)));go_wp2_with fail;·refine bodyPost_ret (results_none rfl _ _ _) rfl ?_;exact⟨rfl,cE.o.drewN⟩
   go_region;all_goals go_wp2_with fail
   go_roundg (n+n-(2*r+1));case measure=>omega
   exact⟨2*r+1,by congr 1,by omega,by omega,yN cE.o.drewN.put.put⟩
 have cD:(hi:Int)≤2*(r:Int)+1:=by omega
 go_wp2_with fail;go_end0;exact⟨rfl,HX.o⟩
end
section
theorem a4B (b o n cap lo hi:Nat) (w:World) (h:UR b o n w) (h1:lo<hi) (h2:hi≤n) (hn:n≤1000000) :
  Calls yM 398 #[yC (yP ⟨b,o,yO⟩) n cap,yE yH lo,yE yH hi] w fun e w'=>e = .returned (.tuple #[])∧Us b o n w w':=by
 have HU:=yN (Us.start h);have hq:Int.tdiv ((hi:Int)-(lo:Int)-1) 2=(((hi-lo-1) / 2:Nat):Int):=by
  rw [show (hi:Int)-(lo:Int)-1=((hi-lo-1:Nat):Int) by omega];rw [Int.tdiv_eq_ediv_of_nonneg (by omega)];omega
 obtain⟨q,hqq⟩:∃ q,q=(hi-lo-1) / 2:=⟨_,rfl⟩;rw [← hqq] at hq;go_enter func398,ntmps398;go_wp2_with fail
 go_loopg [9] (q+1) (fun kx s9 wr=>∃ i:Nat,s9=yE yH ((i:Int)-1)∧i≤q+1∧i≤kx∧Hid (Us b o n w wr))
 case atStart=>exact⟨q+1,by congr 1;first | omega | (rw [hq];omega) | (simp [hq];omega),ye _,ye _,HU⟩
 obtain⟨i,rfl,gR,hm,HX⟩:=hrel;by_cases hlt:0<i
 ·have cD:(0:Int)≤(i:Int)-1:=by omega
  obtain⟨j,rfl⟩:∃ j,i=j+1:=⟨i-1,by omega⟩;have hj:((j+1:Nat):Int)-1=(j:Int):=by omega
  have vT:(j:Int)+1-1=(j:Int):=by omega
  go_wp2_with fail;have hs:=XS b o n cap j (hi-lo) lo wr HX.o.u (by omega) (by omega) hn;rw [show ((hi-lo:Nat):Int)=(hi:Int)-(lo:Int) by omega] at hs;refine hs.mono ?_;rintro e w2 ⟨rfl,hu⟩;have cE:=yN (HX.o.then hu);go_wp2_with fail;go_roundg j;case measure=>omega
  exact⟨j,by congr 1,by omega,ye _,cE⟩
 have cD:¬ (0:Int)≤(i:Int)-1:=by omega
 go_wp2_with fail
 go_loopg [10] (hi-lo) (fun kx cK wr=>∃ i:Nat,cK=yE yH ((i:Int)-1)∧i≤hi-lo∧i≤kx∧Hid (Us b o n w wr))
 case atStart=>exact⟨hi-lo,by congr 1;omega,ye _,ye _,HX⟩
 obtain⟨i,rfl,gR,hm,HY⟩:=hrel;obtain⟨G,hc,hf⟩:=HY.o.u.iA;by_cases hlt:0<i
 ·have cD:(0:Int)≤(i:Int)-1:=by omega
  obtain⟨j,rfl⟩:∃ j,i=j+1:=⟨i-1,by omega⟩;have hj:((j+1:Nat):Int)-1=(j:Int):=by omega
  have vT:(j:Int)+1-1=(j:Int):=by omega
  rcases Nat.eq_zero_or_pos j with rfl | hjp
  all_goals
   go_wp2_with fail;go_region;all_goals go_wp2_with fail
  ·refine (XS b o n cap 0 0 lo _ HY.o.drew.put.put.u (by omega) (by omega) hn).mono ?_;rintro e w2 ⟨rfl,hu⟩;have jR:=yN (HY.o.drew.put.put.then hu);go_wp2_with fail;go_roundg 0;case measure=>omega
   exact⟨0,by congr 1,by omega,ye _,jR⟩
  refine (XS b o n cap 0 j lo _ HY.o.drew.put.put.u (by omega) (by omega) hn).mono ?_;rintro e w2 ⟨rfl,hu⟩;have jR:=yN (HY.o.drew.put.put.then hu);go_wp2_with fail;go_roundg j;case measure=>omega
  exact⟨j,by congr 1,by omega,ye _,jR⟩
 have cD:¬ (0:Int)≤(i:Int)-1:=by omega
 go_wp2_with fail;go_end0;exact⟨rfl,HY.o⟩
theorem a6I (b o n cap lo hi:Nat) (w:World) (h:UR b o n w) (h1:lo≤hi) (h2:hi≤n) (hn:n≤1000000) :
  Calls yM 401 #[yC (yP ⟨b,o,yO⟩) n cap,yE yH lo,yE yH hi] w fun e w'=>e = .returned (.tuple #[])∧Us b o n w w':=by
 have HU:=yN (Us.start h);go_enter func401,ntmps401;go_wp2_with fail
 go_loopg [6,7] n (fun kx s6 s7 wr=>∃ i j:Nat,s6=yE yH i∧s7=yE yH ((j:Int)-1)∧j≤hi∧j≤kx∧Hid (Us b o n w wr))
 case atStart=>exact⟨lo,hi,rfl,rfl,ye _,by omega,HU⟩
 obtain⟨i,j,rfl,rfl,lW,hm,HX⟩:=hrel;obtain⟨G,hc,hf⟩:=HX.o.u.iA;by_cases hlt:i+1<j
 ·have cD:(i:Int)<(j:Int)-1:=by omega
  go_wp2_with fail;go_region;all_goals go_wp2_with fail
  go_roundg (j-1);case measure=>omega
  exact⟨i+1,j-1,by congr 1,by congr 1;omega,by omega,ye _,yN HX.o.drewN.put.put⟩
 have cD:¬ (i:Int)<(j:Int)-1:=by omega
 go_wp2_with fail;go_end0;exact⟨rfl,HX.o⟩
end
end Go.Proofs.YtcldomgdkhenpaaGreat
