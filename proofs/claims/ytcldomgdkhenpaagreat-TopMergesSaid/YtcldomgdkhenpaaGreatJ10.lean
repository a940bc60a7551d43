/- Lemmas. -/
import Derived.Test.YtcldomgdkhenpaaGreatJ02
import Derived.Test.YtcldomgdkhenpaaGreatJ08
import Derived.Shelf.SlSortCmp.Xorshift
set_option linter.unusedVariables false
set_option maxRecDepth 1000000
set_option maxHeartbeats 40000000
open Go.Proofs.Tryz
open Go.Proofs.Tryz renaming prog → yM
open Go.Value renaming pointer → yB,slice → yC,int → yE
open Go.IntKind renaming i64 → yH,u64 → yJ
open Go.Obj renaming cells → yL
open Option renaming none → yO,some → yP
open Go.Lib renaming hid → yN
open And renaming intro → yd
open Array renaming getElem?_eq_some_iff → yo
open Go.IntKind renaming wrap_i64 → zk
open Go.RowKit.Below renaming heap_setCell → yl,refl → yk
open Nat renaming le_of_eq → yh,le_refl → ye
open Go.RowKit
namespace Go.Proofs.YtcldomgdkhenpaaGreat
section
theorem a6F (rb X:Nat) (hX:X<18446744073709551616) (w:World) (hc:w.cell? ⟨rb,0,yO⟩=yP (yE yJ X)) (hf:w.frozen? ⟨rb,0,yO⟩=false) :
  Calls yM 392 #[yB (yP ⟨rb,0,yO⟩)] w fun e w'=>e = .returned (yE yJ (Go.Sort.xorNextN X:Nat))∧w'=(w.setCell ⟨rb,0,yO⟩ (yE yJ (Go.Sort.xorNextN X:Nat))).drewN 3:=
 Go.Proofs.AnyF.xorshift_Next (P:=yM) (ρ:=F4) { KY with } rb 0 X hX w hc hf
theorem a6G (n:Nat) (hn:n<4611686018427387904) (w:World) :
  Calls yM 391 #[yE yH n] w fun e w'=>e = .returned (yE yJ ((1 <<< Go.Sort.bitsLen n:Nat):Int))∧w'=w:=
 Go.Proofs.AnyF.nextPowerOfTwo (P:=yM) (ρ:=F4) { KY with } n hn w
theorem a4A (n:Nat) (hn:0<n):1≤1 <<< Go.Sort.bitsLen n∧1 <<< Go.Sort.bitsLen n≤2*n:=by
 unfold Go.Sort.bitsLen;rw [if_neg (by omega),Nat.one_shiftLeft,Nat.pow_succ];have:=Nat.log2_self_le (n:=n) (by omega);have:=Nat.two_pow_pos n.log2;omega
theorem Us.far {b o n s:Nat} {w w':World} {v:Value} (h:Us b o n w w') (hs:w.heap.size≤s) (hb:b≠s):Us b o n w (w'.setCell ⟨s,0,yO⟩ v):=by
 refine⟨?_,⟨h.o.os,h.o.tape,h.o.output,by simpa [World.setCell] using h.o.size,fun i hi hne=>(yl _ _ _ _ (by simp;omega)).trans (h.o.same i hi hne)⟩⟩;obtain⟨cs,h1,h2⟩:=h.u;exact⟨cs,(yl _ _ _ _ (by simpa using hb)).trans h1,h2⟩
theorem a6H (b o n cap lo hi:Nat) (w:World) (h:UR b o n w) (h1:lo≤hi) (h2:hi≤n) (hn:n≤1000000) :
  Calls yM 399 #[yC (yP ⟨b,o,yO⟩) n cap,yE yH lo,yE yH hi] w fun e w'=>e = .returned (.tuple #[])∧Us b o n w w':=by
 have hb:b<w.heap.size:=by obtain⟨cs,h3,_⟩:=h;exact (yo.1 h3).1
 obtain⟨len,rfl⟩:∃ len,hi=lo+len:=⟨hi-lo,by omega⟩;have hd:(lo:Int)+(len:Int)-(lo:Int)=(len:Int):=by omega
 have hd':((lo+len:Nat):Int)-(lo:Int)=(len:Int):=by omega
 obtain⟨q,hqq⟩:∃ q,q=len / 4:=⟨_,rfl⟩;have hq:Int.tdiv (len:Int) 4=(q:Int):=by rw [Int.tdiv_eq_ediv_of_nonneg (by omega)];omega
 have eY:(len:Int) / 4=(q:Int):=by omega
 have NM:4*q≤len∧len<4*q+4:=by omega
 clear hqq;have HU:=yN (Us.start h);by_cases h8:8≤len
 ·have h8':(8:Int)≤(len:Int):=by omega
  have hwu:yJ.wrap (len:Int)=(len:Int):=by simp [IntKind.wrap,IntKind.bits,IntKind.signed];omega
  have aA:Kept w (w.alloc (yL #[yE yJ len] 475)):=(yk _ w).alloc (ye _) _;have aO:=bM w (yL #[yE yJ len] 475);obtain⟨s,hs⟩:∃ s,s=w.heap.size:=⟨_,rfl⟩;have hu1:Us b o n w (w.alloc (yL #[yE yJ len] 475)):=by
   refine⟨?_,Sm.kept aA⟩;obtain⟨cs,h3,h4⟩:=h;exact⟨cs,(aA.block b hb).trans h3,h4⟩
  rw [← hs] at aO;have oD:b≠s:=by omega
  have HA:=yN (yd hu1 (yd aO hs));clear h aA aO hu1;go_enter func399,ntmps399;go_wp2_with fail;rw [← hs];generalize w.alloc _=w1 at *;have HS:=yN hs;clear hs;refine (a6G len (by omega) w1).mono ?_;rintro e w' ⟨rfl,rfl⟩;have hM:=a4A len (by omega);generalize 1 <<< Go.Sort.bitsLen len=M at *;go_wp2_with fail
  go_loopg [9,10] 4 (fun kx s9 cK wr=>∃ (i X:Nat),s9=yE yH i∧lo+q*2≤i+1∧i≤lo+q*2+2∧lo+q*2+2-i≤kx∧X<18446744073709551616∧Hid (Us b o n w wr)∧Hid (wr.heap[s]?=yP (yL #[yE yJ X] 475)))
  case atStart=>exact⟨lo+q*2-1,len,by congr 1 <;> omega,by omega,by omega,by omega,by omega,yN HA.o.1,yN HA.o.2.1⟩
  obtain⟨i,X,rfl,gR,oA,hm,hX,HX,HB⟩:=hrel;by_cases hlt:i≤lo+q*2+1
  ·have cD:(i:Int)≤(lo:Int)+(q:Int)*2+1:=by omega
   go_wp2_with fail;refine (a6F s X hX wr (aG HB.o rfl) (aU HB.o)).mono ?_;have OV:=Go.Sort.xorNextN_lt X hX;generalize Go.Sort.xorNextN X=X2 at *;rintro e w2 ⟨rfl,rfl⟩;have cE:=yN ((HX.o.far (v:=yE yJ (X2:Nat)) (yh HS.o.symm) oD).drewN (q:=3));have eB:((wr.setCell ⟨s,0,yO⟩ (yE yJ (X2:Nat))).drewN 3).heap[s]?=yP (yL #[yE yJ (X2:Nat)] 475):=heap_setCell HB.o;have mM:=yN eB;clear eB HB HX hX;generalize (wr.setCell _ _).drewN 3=w2 at *;obtain⟨Y,hY⟩:∃ Y,Y=X2 &&& (M-1):=⟨_,rfl⟩;have hYb:bits .and .u64 (X2:Int) ((M:Int)-1)=(Y:Int):=by
    rw [show ((M:Int)-1)=((M-1:Nat):Int) by omega,bits_and_u64_nat _ _ OV (by omega),hY]
   have SV:Y≤M-1:=by rw [hY];exact Nat.and_le_right
   have hMw:yJ.wrap ((M:Int)-1)=(M:Int)-1:=by simp [IntKind.wrap,IntKind.bits,IntKind.signed];omega
   have hYw:yH.wrap (Y:Int)=(Y:Int):=by rw [zk];omega
   clear hY;obtain⟨G,hc,hf⟩:=cE.o.u.iA
   have hbf:∀ a v c z,Hid (((w2.drew.setCell ⟨b,a,yO⟩ v).setCell ⟨b,c,yO⟩ z).heap[s]?=yP (yL #[yE yJ X2] 475)):=fun a v c z=>yN (by
    rw [yl _ _ _ _ (by simpa using oD.symm),yl _ _ _ _ (by simpa using oD.symm)];exact mM.o)
   have TS:=yN hbf;clear hbf;by_cases hge:len≤Y
   ·have a8U:(len:Int)≤(Y:Int):=by omega
    obtain⟨Z,rfl⟩:∃ Z,Y=len+Z:=⟨Y-len,by omega⟩;have hz:(len:Int)+(Z:Int)-(len:Int)=(Z:Int):=by omega
    have hz2:((len+Z:Nat):Int)-(len:Int)=(Z:Int):=by omega
    go_wp2_with fail;rcases (show i=lo+Z∨i<lo+Z∨lo+Z<i by omega) with e | e | e
    ·subst e;go_region;go_wp2_with fail;go_roundg (lo+q*2+2-(lo+Z+1));case measure=>omega
     exact⟨lo+Z+1,X2,by congr 1,by omega,by omega,ye _,OV,yN (cE.o.drew.put.put),TS.o _ _ _ _⟩
    all_goals
     go_region;go_wp2_with fail;go_roundg (lo+q*2+2-(i+1));case measure=>omega
     exact⟨i+1,X2,by congr 1,by omega,by omega,ye _,OV,yN (cE.o.drew.put.put),TS.o _ _ _ _⟩
   have a8U:¬ (len:Int)≤(Y:Int):=by omega
   go_wp2_with fail;rcases (show i=lo+Y∨i<lo+Y∨lo+Y<i by omega) with e | e | e
   ·subst e;go_region;go_wp2_with fail;go_roundg (lo+q*2+2-(lo+Y+1));case measure=>omega
    exact⟨lo+Y+1,X2,by congr 1,by omega,by omega,ye _,OV,yN (cE.o.drew.put.put),TS.o _ _ _ _⟩
   all_goals
    go_region;go_wp2_with fail;go_roundg (lo+q*2+2-(i+1));case measure=>omega
    exact⟨i+1,X2,by congr 1,by omega,by omega,ye _,OV,yN (cE.o.drew.put.put),TS.o _ _ _ _⟩
  have cD:¬ (i:Int)≤(lo:Int)+(q:Int)*2+1:=by omega
  go_wp2_with fail;go_end0;exact⟨rfl,HX.o⟩
 have h8':¬ (8:Int)≤(len:Int):=by omega
 clear h;go_enter func399,ntmps399;go_wp2_with fail;go_end0;exact⟨rfl,HU.o⟩
end
end Go.Proofs.YtcldomgdkhenpaaGreat
