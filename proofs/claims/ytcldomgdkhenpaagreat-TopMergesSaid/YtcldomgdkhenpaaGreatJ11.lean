/- Lemmas. -/
import Derived.Test.YtcldomgdkhenpaaGreatJ10
import Derived.Deep.CutRange
set_option linter.unusedVariables false
set_option maxRecDepth 1000000
set_option maxHeartbeats 40000000
open Go.Proofs.Tryz
open Go.Proofs.Tryz renaming prog → yM
open Go.Value renaming slice → yC,bool → yD,int → yE
open Go.IntKind renaming i64 → yH
open Option renaming none → yO,some → yP
open Go.Lib renaming hid → yN
open Go.Calls renaming quiet_of_same → zl
open Go.RowKit
namespace Go.Proofs.YtcldomgdkhenpaaGreat
section
theorem a6L (b o n cap:Nat) (hn:n≤1000000) (m:Nat):∀ (OX bS R9:Nat) (w:World),bS-OX=m→UR b o n w→OX≤bS→bS≤n→R9≤1000→
  Calls yM 344 #[yC (yP ⟨b,o,yO⟩) n cap,yE yH OX,yE yH bS,yE yH R9] w fun e w'=>e = .returned (.tuple #[])∧Us b o n w w':=by
 induction m using Nat.strongRecOn with
 | ind m ih=>
 intro OX bS R9 w zR h h1 h2 h3;have HU:=yN (Us.start h);clear h;go_enter func344,ntmps344;go_wp2_with fail
 go_loopg [1,2,3,8,9] m (fun kx s1 s2 s3 s8 s9 wr=>∃ (lo hi lim:Nat) (bal part:Bool),s1=yE yH lo∧s2=yE yH hi∧s3=yE yH lim∧s8=yD bal∧s9=yD part∧lo≤hi∧hi≤n∧hi-lo≤m∧lim≤1000∧hi-lo≤kx∧Hid (Us b o n w wr))
 case atStart=>exact⟨OX,bS,R9,true,true,rfl,rfl,rfl,rfl,rfl,h1,h2,by omega,h3,by omega,HU⟩
 obtain⟨lo,hi,lim,bal,part,rfl,rfl,rfl,rfl,rfl,mL,uS,hh3,jG,qV,HX⟩:=hrel;clear h1 h2 h3 zR;by_cases h12:hi-lo≤12
 ·have a8V:(hi:Int)-(lo:Int)≤12:=by omega
  go_wp2_with fail;refine (a6E b o n cap lo hi wr HX.o.u mL uS hn).mono ?_;rintro e w2 ⟨rfl,hu⟩;have cE:=yN (HX.o.then hu);clear hu;go_wp2_with fail;refine bodyPost_ret (results_none rfl _ _ _) rfl ?_;exact⟨rfl,cE.o⟩
 have a8V:¬ (hi:Int)-(lo:Int)≤12:=by omega
 by_cases hl0:lim=0
 ·subst hl0;go_wp2_with fail;refine (a4B b o n cap lo hi wr HX.o.u (by omega) uS hn).mono ?_;rintro e w2 ⟨rfl,hu⟩;have cE:=yN (HX.o.then hu);clear hu;go_wp2_with fail;refine bodyPost_ret (results_none rfl _ _ _) rfl ?_;exact⟨rfl,cE.o⟩
 have bHN:((lim:Int) == 0)=false:=by simp;omega
 have bHO:decide ((lim:Int)=0)=false:=by simp;omega
 cases bal
 focus
  go_wp2_with fail;refine (a6H b o n cap lo hi wr HX.o.u mL uS hn).mono ?_;rintro e wr ⟨rfl,hu⟩;have HX:=yN (HX.o.then hu);obtain⟨lim,hlm,jG⟩:∃ l:Nat,(lim:Int)-1=(l:Int)∧l≤1000:=⟨lim-1,by omega,by omega⟩;clear hu;go_wp2_with fail
 rotate_left
 focus
  cases part;rotate_left;have hbt:=trivial;all_goals go_wp2_with fail
 all_goals
  refine (a6J b o n cap lo hi _ HX.o.u (by omega) uS hn).mono ?_;rintro e w5 ⟨pv,y,rfl,B4,zY,hpx,hu⟩;have HP:=yN (HX.o.then hu);clear hu;by_cases I7:y=2
  focus
   subst I7;go_wp2_with fail;refine (a6I b o n cap lo hi _ HP.o.u mL uS hn).mono ?_;rintro e w6 ⟨rfl,hu⟩;have HP:=yN (HP.o.then hu);clear hu;obtain⟨pv,AL,a8W⟩:∃ q:Nat,(hi:Int)-1-((pv:Int)-(lo:Int))=(q:Int)∧lo<q∧q<hi:=⟨hi-1-(pv-lo),by omega,by have:=hpx (by omega);omega⟩;first
   |have _g:=hbt
    go_wp2_with fail;refine (aJC b o n cap lo hi _ HP.o.u (by omega) uS hn).mono ?_;rintro e w8 ⟨r8,rfl,hu⟩;have HP:=yN (HP.o.then hu);clear hu;cases r8;rotate_left
    focus
     go_wp2_with fail;refine bodyPost_ret (results_none rfl _ _ _) rfl ?_;exact⟨rfl,HP.o⟩
    go_wp2_with fail
   | go_upto_region 17 with fail
  rotate_left;have hyb:(y == 2)=false:=by simpa using I7
  have hyd:decide (y=2)=false:=by simpa using I7
  have a8W:lo<pv∧pv<hi:=by have:=hpx (by omega);omega
  first
  |have _g:=hbt
   by_cases OE:y=1
   focus
    subst OE;go_wp2_with fail;refine (aJC b o n cap lo hi _ HP.o.u (by omega) uS hn).mono ?_;rintro e w8 ⟨r8,rfl,hu⟩;have HP:=yN (HP.o.then hu);clear hu;cases r8;rotate_left
    focus
     go_wp2_with fail;refine bodyPost_ret (results_none rfl _ _ _) rfl ?_;exact⟨rfl,HP.o⟩
    go_wp2_with fail
   rotate_left;have bHP:(y == 1)=false:=by simpa using OE
   have bHQ:decide (y=1)=false:=by simpa using OE
   go_upto_region 17 with fail
  | go_upto_region 17 with fail
 all_goals
  clear hpx;obtain⟨G,hc,hf⟩:=HP.o.u.iA;by_cases ha:0<lo
  all_goals
   go_wp2_with fail;go_big_quiet (first | (go_at_call 403;refine zl (fB _ _ _)));have HQ:=yN (HP.o.drewN (q:=nq));clear hc hf;go_wp2_with fail
  focus
   refine (a6K b o n cap lo hi _ _ HQ.o.u (by omega) (by omega) uS hn).mono ?_;rintro e wI ⟨x,rfl,hx1,hx2,hu⟩;have HS:=yN (HQ.o.then hu);clear hu;go_wp2_with fail;go_roundg (hi-x);case measure=>omega
   exact⟨x,hi,lim,_,_,by first | rfl | (congr 1 <;> omega),by first | rfl | (congr 1 <;> omega),by first | rfl | (congr 1 <;> omega),rfl,rfl,by omega,by omega,by omega,by omega,by omega,HS⟩
  all_goals
   refine (a4C b o n cap lo hi _ _ HQ.o.u (by omega) (by omega) uS hn).mono ?_;rintro e uT ⟨mid,r,rfl,jQ,uH,hu⟩;have HR:=yN (HQ.o.then hu);clear hu;by_cases bHR:(mid:Int)-(lo:Int)<(hi:Int)-(mid:Int);all_goals go_wp2_with fail
   focus
    have hi':=ih (mid-lo) (by omega) lo mid lim uT rfl HR.o.u (by omega) (by omega) (by omega);refine hi'.mono ?_
   rotate_left
   focus
    have hi':=ih (hi-(mid+1)) (by omega) (mid+1) hi lim uT rfl HR.o.u (by omega) (by omega) (by omega);rw [show ((mid+1:Nat):Int)=(mid:Int)+1 by omega] at hi';refine hi'.mono ?_
   rotate_left
   all_goals
    rintro e OY ⟨rfl,hu⟩;have HS:=yN (HR.o.then hu);clear hu hi';go_wp2_with fail
   focus
    go_roundg (hi-(mid+1));case measure=>omega
    exact⟨mid+1,hi,lim,_,_,by first | rfl | (congr 1 <;> omega),by first | rfl | (congr 1 <;> omega),by first | rfl | (congr 1 <;> omega),rfl,rfl,by omega,by omega,by omega,by omega,by omega,HS⟩
   go_roundg (mid-lo);case measure=>omega
   exact⟨lo,mid,lim,_,_,by first | rfl | (congr 1 <;> omega),by first | rfl | (congr 1 <;> omega),by first | rfl | (congr 1 <;> omega),rfl,rfl,by omega,by omega,by omega,by omega,by omega,HS⟩
end
end Go.Proofs.YtcldomgdkhenpaaGreat
