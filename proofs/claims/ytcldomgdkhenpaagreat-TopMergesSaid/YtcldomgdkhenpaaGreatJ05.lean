/- Lemmas. -/
import Derived.Test.YtcldomgdkhenpaaGreatJ01
import Derived.StillTailTactics
import Derived.Deep.RegionWith
import Derived.Lib.Strings
set_option linter.unusedVariables false
set_option maxRecDepth 1000000
set_option maxHeartbeats 40000000
open Go.Proofs.Tryz
open Go.Proofs.Tryz renaming prog → yM
open Go.Value renaming string → yA,pointer → yB,int → yE,agg → yF
open Go.IntKind renaming i64 → yH,u64 → yJ
open Option renaming none → yO,some → yP
open Go.Lib renaming hid → yN
open Go.RowKit.Below renaming heap_setCell → yl,refl → yk
open List renaming length_cons → zh,length_drop → zg
open Nat renaming le_refl → ye,lt_of_lt_of_le → yi
open Go.RowKit
namespace Go.Proofs.YtcldomgdkhenpaaGreat.Sip
section
structure St (b:Nat) (w0 w:World) (x0 x1 x2 x3:UInt64):Prop where
 c0:w.cell? ⟨b,0,yO⟩=yP (yE yJ (nu x0))
 c1:w.cell? ⟨b,1,yO⟩=yP (yE yJ (nu x1))
 c2:w.cell? ⟨b,2,yO⟩=yP (yE yJ (nu x2))
 c3:w.cell? ⟨b,3,yO⟩=yP (yE yJ (nu x3))
 f0:w.frozen? ⟨b,0,yO⟩=false
 f1:w.frozen? ⟨b,1,yO⟩=false
 f2:w.frozen? ⟨b,2,yO⟩=false
 f3:w.frozen? ⟨b,3,yO⟩=false
 own:w0.grownBy w (yP b)
theorem Q4 {a w:World} {g:Nat} (h:a.grownBy w (yP g)) (i:Nat) (u:Value):a.grownBy ((w.setCell ⟨g,i,yO⟩ u).drew) (yP g):=
 ⟨h.os,h.tape,h.output,by have:=h.size;simpa [World.setCell] using this,fun j hj hne=>(yl w ⟨g,i,yO⟩ u j (by rintro rfl;exact hne rfl)).trans (h.block j hj hne)⟩
section
variable {b:Nat} {w0 w:World} {x0 x1 x2 x3:UInt64}
theorem St.R6 (h:St b w0 w x0 x1 x2 x3) (y:UInt64):St b w0 ((w.setCell ⟨b,0,yO⟩ (yE yJ (nu y))).drew) y x1 x2 x3:=by
 obtain⟨c0,c1,c2,c3,f0,f1,f2,f3,own⟩:=h;exact⟨by go_simp,by go_simp,by go_simp,by go_simp,by go_simp,by go_simp,by go_simp,by go_simp,Q4 own _ _⟩
theorem St.aLC (h:St b w0 w x0 x1 x2 x3) (y:UInt64):St b w0 ((w.setCell ⟨b,1,yO⟩ (yE yJ (nu y))).drew) x0 y x2 x3:=by
 obtain⟨c0,c1,c2,c3,f0,f1,f2,f3,own⟩:=h;exact⟨by go_simp,by go_simp,by go_simp,by go_simp,by go_simp,by go_simp,by go_simp,by go_simp,Q4 own _ _⟩
theorem St.ZP (h:St b w0 w x0 x1 x2 x3) (y:UInt64):St b w0 ((w.setCell ⟨b,2,yO⟩ (yE yJ (nu y))).drew) x0 x1 y x3:=by
 obtain⟨c0,c1,c2,c3,f0,f1,f2,f3,own⟩:=h;exact⟨by go_simp,by go_simp,by go_simp,by go_simp,by go_simp,by go_simp,by go_simp,by go_simp,Q4 own _ _⟩
theorem St.ZQ (h:St b w0 w x0 x1 x2 x3) (y:UInt64):St b w0 ((w.setCell ⟨b,3,yO⟩ (yE yJ (nu y))).drew) x0 x1 x2 y:=by
 obtain⟨c0,c1,c2,c3,f0,f1,f2,f3,own⟩:=h;exact⟨by go_simp,by go_simp,by go_simp,by go_simp,by go_simp,by go_simp,by go_simp,by go_simp,Q4 own _ _⟩
end
attribute [local go_sem] XP BH
theorem EP (x:UInt64) (w:World):Calls yM 407 #[yE yJ (nu x),yE yH 13] w fun e w'=>e = .returned (yE yJ (nu (e9 x 13)))∧w'=w:=(a5U x w).mono fun _ _ ⟨a,b⟩=>⟨a,b.symm⟩
theorem s16 (x:UInt64) (w:World):Calls yM 407 #[yE yJ (nu x),yE yH 16] w fun e w'=>e = .returned (yE yJ (nu (e9 x 16)))∧w'=w:=(a5V x w).mono fun _ _ ⟨a,b⟩=>⟨a,b.symm⟩
theorem NJ (x:UInt64) (w:World):Calls yM 407 #[yE yJ (nu x),yE yH 17] w fun e w'=>e = .returned (yE yJ (nu (e9 x 17)))∧w'=w:=(a5W x w).mono fun _ _ ⟨a,b⟩=>⟨a,b.symm⟩
theorem s21 (x:UInt64) (w:World):Calls yM 407 #[yE yJ (nu x),yE yH 21] w fun e w'=>e = .returned (yE yJ (nu (e9 x 21)))∧w'=w:=(a5X x w).mono fun _ _ ⟨a,b⟩=>⟨a,b.symm⟩
theorem TJ (x:UInt64) (w:World):Calls yM 407 #[yE yJ (nu x),yE yH 32] w fun e w'=>e = .returned (yE yJ (nu (e9 x 32)))∧w'=w:=(a5Y x w).mono fun _ _ ⟨a,b⟩=>⟨a,b.symm⟩
structure S4 where
 v0:UInt64
 v1:UInt64
 v2:UInt64
 v3:UInt64
def rnd (s:S4):S4:=
 let y1:=s.v0+s.v1
 let y2:=e9 s.v1 13 ^^^ y1
 let y3:=e9 y1 32
 let y4:=s.v2+s.v3
 let y5:=e9 s.v3 16 ^^^ y4
 let y6:=y3+y5
 let y7:=e9 y5 21 ^^^ y6
 let y8:=y4+y2
 let y9:=e9 y2 17 ^^^ y8
 let y10:=e9 y8 32
 ⟨y6,y9,y10,y7⟩
def mI:Nat→S4→S4
 | 0,s=>s
 | n+1,s=>rnd (mI n s)
def E1 (b:Nat) (w0 w:World) (s:S4):Prop:=St b w0 w s.v0 s.v1 s.v2 s.v3
theorem aE9 (b n:Nat) (s:S4) (w0 w:World) (h:E1 b w0 w s) (hn:n≤100) :
  Calls yM 352 #[yB (yP ⟨b,0,yO⟩),yE yH n] w fun e w'=>e = .returned (.tuple #[])∧E1 b w0 w' (mI n s):=by
 go_enter func352,ntmps352;go_wp2
 go_loopw [5] (fun i wr=>∃ k:Nat,i=yE yH k∧k≤n∧E1 b w0 wr (mI k s)) (fun i _=>n-(intOf i).toNat)
 case atStart=>exact⟨0,rfl,by omega,h⟩
 obtain⟨k,rfl,hk,h⟩:=hrel;by_cases hlt:k<n
 ·have e:mI (k+1) s=rnd (mI k s):=rfl;have E:=yN e;generalize mI k s=z at h E;obtain⟨x0,x1,x2,x3⟩:=z;have H:Hid (St b w0 wr x0 x1 x2 x3):=h;obtain⟨W0,rfl⟩:∃ W:World,W=wr:=⟨_,rfl⟩;have ⟨c0,c1,c2,c3,f0,f1,f2,f3,_⟩:=H.o;go_wp2;refine wp_region_still_tail 11 (by kernel_rfl) (by kernel_rfl) ?_;simp only [List.take_succ_cons,List.take_zero,List.drop_succ_cons,List.drop_zero];repeat still_step
  try refine wpStill_nil ?_
  go_wp2;have K1:=yN (H.o.R6 (x0+x1));generalize (W0.setCell _ _).drew=W1 at K1 ⊢;have ⟨c0,c1,c2,c3,f0,f1,f2,f3,_⟩:=K1.o;generalize OE:(x0+x1)=y1 at K1 c0 ⊢;have Y1:=yN OE;refine wp_region_still_tail 13 (by kernel_rfl) (by kernel_rfl) ?_;simp only [List.take_succ_cons,List.take_zero,List.drop_succ_cons,List.drop_zero];repeat still_step
  still_call EP _ _
  repeat still_step
  try refine wpStill_nil ?_
  go_wp2;have K2:=yN (K1.o.aLC (e9 x1 13 ^^^ y1));generalize (W1.setCell _ _).drew=W2 at K2 ⊢;have ⟨c0,c1,c2,c3,f0,f1,f2,f3,_⟩:=K2.o;generalize I7:(e9 x1 13 ^^^ y1)=y2 at K2 c1 ⊢;have Y2:=yN I7;refine wp_region_still_tail 8 (by kernel_rfl) (by kernel_rfl) ?_;simp only [List.take_succ_cons,List.take_zero,List.drop_succ_cons,List.drop_zero];repeat still_step
  still_call TJ _ _
  repeat still_step
  try refine wpStill_nil ?_
  go_wp2;have K3:=yN (K2.o.R6 (e9 y1 32));generalize (W2.setCell _ _).drew=W3 at K3 ⊢;have ⟨c0,c1,c2,c3,f0,f1,f2,f3,_⟩:=K3.o;generalize hy3:(e9 y1 32)=y3 at K3 c0 ⊢;have Y3:=yN hy3;refine wp_region_still_tail 11 (by kernel_rfl) (by kernel_rfl) ?_;simp only [List.take_succ_cons,List.take_zero,List.drop_succ_cons,List.drop_zero];repeat still_step
  try refine wpStill_nil ?_
  go_wp2;have K4:=yN (K3.o.ZP (x2+x3));generalize (W3.setCell _ _).drew=W4 at K4 ⊢;have ⟨c0,c1,c2,c3,f0,f1,f2,f3,_⟩:=K4.o;generalize hy4:(x2+x3)=y4 at K4 c2 ⊢;have Y4:=yN hy4;refine wp_region_still_tail 13 (by kernel_rfl) (by kernel_rfl) ?_;simp only [List.take_succ_cons,List.take_zero,List.drop_succ_cons,List.drop_zero];repeat still_step
  still_call s16 _ _
  repeat still_step
  try refine wpStill_nil ?_
  go_wp2;have K5:=yN (K4.o.ZQ (e9 x3 16 ^^^ y4));generalize (W4.setCell _ _).drew=W5 at K5 ⊢;have ⟨c0,c1,c2,c3,f0,f1,f2,f3,_⟩:=K5.o;generalize hy5:(e9 x3 16 ^^^ y4)=y5 at K5 c3 ⊢;have Y5:=yN hy5;refine wp_region_still_tail 11 (by kernel_rfl) (by kernel_rfl) ?_;simp only [List.take_succ_cons,List.take_zero,List.drop_succ_cons,List.drop_zero];repeat still_step
  try refine wpStill_nil ?_
  go_wp2;have K6:=yN (K5.o.R6 (y3+y5));generalize (W5.setCell _ _).drew=W6 at K6 ⊢;have ⟨c0,c1,c2,c3,f0,f1,f2,f3,_⟩:=K6.o;generalize hy6:(y3+y5)=y6 at K6 c0 ⊢;have Y6:=yN hy6;refine wp_region_still_tail 13 (by kernel_rfl) (by kernel_rfl) ?_;simp only [List.take_succ_cons,List.take_zero,List.drop_succ_cons,List.drop_zero];repeat still_step
  still_call s21 _ _
  repeat still_step
  try refine wpStill_nil ?_
  go_wp2;have K7:=yN (K6.o.ZQ (e9 y5 21 ^^^ y6));generalize (W6.setCell _ _).drew=W7 at K7 ⊢;have ⟨c0,c1,c2,c3,f0,f1,f2,f3,_⟩:=K7.o;generalize hy7:(e9 y5 21 ^^^ y6)=y7 at K7 c3 ⊢;have Y7:=yN hy7;refine wp_region_still_tail 11 (by kernel_rfl) (by kernel_rfl) ?_;simp only [List.take_succ_cons,List.take_zero,List.drop_succ_cons,List.drop_zero];repeat still_step
  try refine wpStill_nil ?_
  go_wp2;have K8:=yN (K7.o.ZP (y4+y2));generalize (W7.setCell _ _).drew=W8 at K8 ⊢;have ⟨c0,c1,c2,c3,f0,f1,f2,f3,_⟩:=K8.o;generalize hy8:(y4+y2)=y8 at K8 c2 ⊢;have Y8:=yN hy8;refine wp_region_still_tail 13 (by kernel_rfl) (by kernel_rfl) ?_;simp only [List.take_succ_cons,List.take_zero,List.drop_succ_cons,List.drop_zero];repeat still_step
  still_call NJ _ _
  repeat still_step
  try refine wpStill_nil ?_
  go_wp2;have K9:=yN (K8.o.aLC (e9 y2 17 ^^^ y8));generalize (W8.setCell _ _).drew=W9 at K9 ⊢;have ⟨c0,c1,c2,c3,f0,f1,f2,f3,_⟩:=K9.o;generalize hy9:(e9 y2 17 ^^^ y8)=y9 at K9 c1 ⊢;have Y9:=yN hy9;refine wp_region_still_tail 8 (by kernel_rfl) (by kernel_rfl) ?_;simp only [List.take_succ_cons,List.take_zero,List.drop_succ_cons,List.drop_zero];repeat still_step
  still_call TJ _ _
  repeat still_step
  try refine wpStill_nil ?_
  go_wp2;have TK:=yN (K9.o.ZP (e9 y8 32));generalize (W9.setCell _ _).drew=W10 at TK ⊢;have ⟨c0,c1,c2,c3,f0,f1,f2,f3,_⟩:=TK.o;generalize a8L:(e9 y8 32)=y10 at TK c2 ⊢;have Y10:=yN a8L
  go_roundw
  case rel=>
   refine⟨k+1,by go_num,by omega,?_⟩;rw [E.o];have hh:=TK.o;rw [← Y10.o,← Y9.o,← Y8.o,← Y7.o,← Y6.o,← Y5.o,← Y4.o,← Y3.o,← Y2.o,← Y1.o] at hh;exact hh
  case measure=>simp [intOf];omega
 have sP:k=n:=by omega
 subst sP;go_wp2;go_end0;exact⟨rfl,h⟩
end
section
attribute [local go_sem] XP BH
def tk (m:UInt64) (s:S4):S4:=
 let t:=mI 2 ⟨s.v0,s.v1,s.v2,s.v3 ^^^ m⟩
 ⟨t.v0 ^^^ m,t.v1,t.v2,t.v3⟩
theorem Q5 (b:Nat) (m:UInt64) (s:S4) (w0 w:World) (h:E1 b w0 w s) :
  Calls yM 350 #[yB (yP ⟨b,0,yO⟩),yE yJ (nu m)] w fun e w'=>e = .returned (.tuple #[])∧E1 b w0 w' (tk m s):=by
 obtain⟨x0,x1,x2,x3⟩:=s;have H:Hid (St b w0 w x0 x1 x2 x3):=h;obtain⟨W0,rfl⟩:∃ W:World,W=w:=⟨_,rfl⟩;have ⟨c0,c1,c2,c3,f0,f1,f2,f3,_⟩:=H.o;go_enter func350,ntmps350;go_wp2_with fail;refine wp_region_still_tail 8 (by kernel_rfl) (by kernel_rfl) ?_;simp only [List.take_succ_cons,List.take_zero,List.drop_succ_cons,List.drop_zero];repeat still_step
 try refine wpStill_nil ?_
 go_wp2_with fail;have K:=yN (H.o.ZQ (x3 ^^^ m));generalize (W0.setCell _ _).drew=W1 at K ⊢;refine (aE9 b 2 ⟨x0,x1,x2,x3 ^^^ m⟩ w0 W1 K.o (by omega)).mono ?_;have e:tk m ⟨x0,x1,x2,x3⟩=⟨(mI 2 ⟨x0,x1,x2,x3 ^^^ m⟩).v0 ^^^ m,(mI 2 ⟨x0,x1,x2,x3 ^^^ m⟩).v1,(mI 2 ⟨x0,x1,x2,x3 ^^^ m⟩).v2,(mI 2 ⟨x0,x1,x2,x3 ^^^ m⟩).v3⟩:=rfl;have E:=yN e;generalize mI 2 ⟨x0,x1,x2,x3 ^^^ m⟩=z at E ⊢;rintro e W2 ⟨rfl,h⟩;obtain⟨z0,z1,z2,z3⟩:=z;have H:Hid (St b w0 W2 z0 z1 z2 z3):=h;have ⟨c0,c1,c2,c3,f0,f1,f2,f3,_⟩:=H.o;go_wp2_with fail;refine wp_region_still_tail 8 (by kernel_rfl) (by kernel_rfl) ?_;simp only [List.take_succ_cons,List.take_zero,List.drop_succ_cons,List.drop_zero];repeat still_step
 try refine wpStill_nil ?_
 go_wp2;go_end0;refine⟨rfl,?_⟩;rw [E.o];exact H.o.R6 (z0 ^^^ m)
def le:List UInt8→Nat
 | []=>0
 | c::t=>c.toNat+256*le t
theorem YC (l:List UInt8):le l<256 ^ l.length:=by
 induction l with
 | nil=>simp [le]
 | cons c t ih=>
  have:=c.toNat_lt;simp only [le,zh,Nat.pow_succ];omega
end
section
theorem lI (a:ByteArray):a.data.toList.length=a.size:=by rw [Array.length_toList];rfl
theorem a1G (a c m k:Nat) (hm:m=2 ^ (8*k)) (hc:c<256) (hb:(a*256+c)*m<18446744073709551616) :
  bits .or .u64 ((a*256*m:Nat):Int) (yJ.wrap (yJ.wrap (c:Int)*(m:Int)))=(((a*256+c)*m:Nat):Int):=by
 have hmp:0<m:=by rw [hm];exact Nat.two_pow_pos _
 rw [Nat.add_mul] at hb;have e1:yJ.wrap (c:Int)=(c:Int):=by rw [KA];omega
 have e2:yJ.wrap ((c:Int)*(m:Int))=((c*m:Nat):Int):=by
  rw [KA,← Int.natCast_mul];omega
 rw [e1,e2,u64_or_nat _ _ (by omega) (by omega)];have hlt:c*m<2 ^ (8*k+8):=by
  rw [Nat.pow_add,← hm];have:c*m<256*m:=Nat.mul_lt_mul_of_pos_right hc hmp;have e:(2:Nat) ^ 8=256:=by decide
  rw [e,Nat.mul_comm m];exact this
 have e3:a*256*m=2 ^ (8*k+8)*a:=by
  rw [Nat.pow_add,← hm];have e:(2:Nat) ^ 8=256:=by decide
  rw [e,Nat.mul_comm (m*256) a,Nat.mul_assoc,Nat.mul_comm 256 m]
 have:=Nat.two_pow_add_eq_or_of_lt hlt a;rw [e3,← this,← e3,Nat.add_mul]
theorem x9 (s:ByteArray) (hs:s.size≤8):∃ q:Nat→Nat,q 0=le s.data.toList∧q s.size=0∧
  ∀ i (h:i<s.size),bits .or .u64 ((q (i+1):Nat):Int) (yJ.wrap (yJ.wrap ((s[i].toNat:Nat):Int)*((2 ^ (8*i):Nat):Int)))=((q i:Nat):Int):=by
 refine⟨fun i=>le (s.data.toList.drop i)*2 ^ (8*i),by simp,?_,fun i h=>?_⟩
 ·show le (s.data.toList.drop s.size)*_=0;rw [List.drop_eq_nil_of_le (by rw [lI];exact ye _)];simp [le]
 have e:s.data.toList.drop i=s[i]::s.data.toList.drop (i+1):=by
  rw [List.drop_eq_getElem_cons (by rw [lI];exact h)];rfl
 have hb:=YC (s.data.toList.drop i);have hc:=s[i].toNat_lt;have e2:le (s.data.toList.drop i)=le (s.data.toList.drop (i+1))*256+s[i].toNat:=by
  rw [e];simp only [le];omega
 have hlen:(s.data.toList.drop i).length=s.size-i:=by rw [zg,lI]
 have hlt:le (s.data.toList.drop i)*2 ^ (8*i)<18446744073709551616:=by
  rw [hlen] at hb;have p1:(256:Nat) ^ (s.size-i)*2 ^ (8*i)≤18446744073709551616:=by
   have a8M:(256:Nat)=2 ^ 8:=by decide
   rw [a8M,← Nat.pow_mul,← Nat.pow_add];have:2 ^ (8*(s.size-i)+8*i)≤2 ^ 64:=Nat.pow_le_pow_right (by decide) (by omega);exact this
  exact yi (Nat.mul_lt_mul_of_pos_right hb (Nat.two_pow_pos _)) p1
 rw [e2] at hlt;have:=a1G (le (s.data.toList.drop (i+1))) s[i].toNat (2 ^ (8*i)) i rfl hc hlt;have e3:le (s.data.toList.drop (i+1))*2 ^ (8*(i+1))=le (s.data.toList.drop (i+1))*256*2 ^ (8*i):=by
  rw [show 8*(i+1)=8*i+8 from by omega,Nat.pow_add,Nat.mul_comm (2 ^ (8*i)),← Nat.mul_assoc]
 show bits .or .u64 ((le (s.data.toList.drop (i+1))*2 ^ (8*(i+1)):Nat):Int) _=((le (s.data.toList.drop i)*2 ^ (8*i):Nat):Int);rw [e3,e2];exact this
theorem nD {s:ByteArray} {q:Nat→Nat} (hq:∀ i (h:i<s.size),bits .or .u64 ((q (i+1):Nat):Int) (yJ.wrap (yJ.wrap ((s[i].toNat:Nat):Int)*((2 ^ (8*i):Nat):Int)))=((q i:Nat):Int)) (h:0<s.size) :
  bits .or .u64 ((q 1:Nat):Int) (yJ.wrap ((s[0].toNat:Nat):Int))=((q 0:Nat):Int):=by
 have:=hq 0 h;have e:((2 ^ (8*0):Nat):Int)=1:=rfl;have hc:=s[0].toNat_lt;have e1:yJ.wrap ((s[0].toNat:Nat):Int)=((s[0].toNat:Nat):Int):=by rw [KA];omega
 rw [e,e1,Int.mul_one] at this;exact this
attribute [local irreducible] le
theorem a3P (s:ByteArray) (w:World) (h:s.size=0) :
  Calls yM 351 #[yA s] w fun e w'=>e = .returned (yE yJ (le s.data.toList))∧w=w':=by
 obtain⟨q,q0,qn,hq⟩:=x9 s (by omega);rw [h] at qn;have hi:(s.size:Int)=0:=by omega
 have HQ:=yN (q0.symm.trans qn);go_enter func351,ntmps351;go_wp2;go_ret;exact⟨gO (by rw [HQ.o];rfl),rfl⟩
theorem a3Q (s:ByteArray) (w:World) (h:s.size=1) :
  Calls yM 351 #[yA s] w fun e w'=>e = .returned (yE yJ (le s.data.toList))∧w=w':=by
 obtain⟨q,q0,qn,hq⟩:=x9 s (by omega);rw [h] at qn;have g0:0<s.size:=by omega
 have e0:bits .or .u64 0 (yJ.wrap ((s[0].toNat:Nat):Int))=((q 0:Nat):Int):=by have z:=nD hq g0;rw [qn] at z;exact z
 have hi:(s.size:Int)=1:=by omega
 generalize q 0=p0 at *;have HQ:=yN q0;go_enter func351,ntmps351;go_wp2;go_ret;exact⟨gO (by rw [← HQ.o]),rfl⟩
theorem a3R (s:ByteArray) (w:World) (h:s.size=2) :
  Calls yM 351 #[yA s] w fun e w'=>e = .returned (yE yJ (le s.data.toList))∧w=w':=by
 obtain⟨q,q0,qn,hq⟩:=x9 s (by omega);rw [h] at qn;have g1:1<s.size:=by omega
 have g0:0<s.size:=by omega
 have e1:bits .or .u64 0 (yJ.wrap (yJ.wrap ((s[1].toNat:Nat):Int)*256))=((q 1:Nat):Int):=by have z:=hq 1 g1;rw [qn] at z;exact z
 have e0:bits .or .u64 ((q 1:Nat):Int) (yJ.wrap ((s[0].toNat:Nat):Int))=((q 0:Nat):Int):=nD hq g0;have hi:(s.size:Int)=2:=by omega
 generalize q 0=p0 at *;generalize q 1=p1 at *;have HQ:=yN q0;go_enter func351,ntmps351;go_wp2;go_ret;exact⟨gO (by rw [← HQ.o]),rfl⟩
theorem a3S (s:ByteArray) (w:World) (h:s.size=3) :
  Calls yM 351 #[yA s] w fun e w'=>e = .returned (yE yJ (le s.data.toList))∧w=w':=by
 obtain⟨q,q0,qn,hq⟩:=x9 s (by omega);rw [h] at qn;have g2:2<s.size:=by omega
 have g1:1<s.size:=by omega
 have g0:0<s.size:=by omega
 have e2:bits .or .u64 0 (yJ.wrap (yJ.wrap ((s[2].toNat:Nat):Int)*65536))=((q 2:Nat):Int):=by have z:=hq 2 g2;rw [qn] at z;exact z
 have e1:bits .or .u64 ((q 2:Nat):Int) (yJ.wrap (yJ.wrap ((s[1].toNat:Nat):Int)*256))=((q 1:Nat):Int):=hq 1 g1;have e0:bits .or .u64 ((q 1:Nat):Int) (yJ.wrap ((s[0].toNat:Nat):Int))=((q 0:Nat):Int):=nD hq g0;have hi:(s.size:Int)=3:=by omega
 generalize q 0=p0 at *;generalize q 1=p1 at *;generalize q 2=p2 at *;have HQ:=yN q0;go_enter func351,ntmps351;go_wp2;go_ret;exact⟨gO (by rw [← HQ.o]),rfl⟩
theorem a3T (s:ByteArray) (w:World) (h:s.size=4) :
  Calls yM 351 #[yA s] w fun e w'=>e = .returned (yE yJ (le s.data.toList))∧w=w':=by
 obtain⟨q,q0,qn,hq⟩:=x9 s (by omega);rw [h] at qn;have g3:3<s.size:=by omega
 have g2:2<s.size:=by omega
 have g1:1<s.size:=by omega
 have g0:0<s.size:=by omega
 have e3:bits .or .u64 0 (yJ.wrap (yJ.wrap ((s[3].toNat:Nat):Int)*16777216))=((q 3:Nat):Int):=by have z:=hq 3 g3;rw [qn] at z;exact z
 have e2:bits .or .u64 ((q 3:Nat):Int) (yJ.wrap (yJ.wrap ((s[2].toNat:Nat):Int)*65536))=((q 2:Nat):Int):=hq 2 g2;have e1:bits .or .u64 ((q 2:Nat):Int) (yJ.wrap (yJ.wrap ((s[1].toNat:Nat):Int)*256))=((q 1:Nat):Int):=hq 1 g1;have e0:bits .or .u64 ((q 1:Nat):Int) (yJ.wrap ((s[0].toNat:Nat):Int))=((q 0:Nat):Int):=nD hq g0;have hi:(s.size:Int)=4:=by omega
 generalize q 0=p0 at *;generalize q 1=p1 at *;generalize q 2=p2 at *;generalize q 3=p3 at *;have HQ:=yN q0;go_enter func351,ntmps351;go_wp2;go_ret;exact⟨gO (by rw [← HQ.o]),rfl⟩
theorem a3U (s:ByteArray) (w:World) (h:s.size=5) :
  Calls yM 351 #[yA s] w fun e w'=>e = .returned (yE yJ (le s.data.toList))∧w=w':=by
 obtain⟨q,q0,qn,hq⟩:=x9 s (by omega);rw [h] at qn;have g4:4<s.size:=by omega
 have g3:3<s.size:=by omega
 have g2:2<s.size:=by omega
 have g1:1<s.size:=by omega
 have g0:0<s.size:=by omega
 have e4:bits .or .u64 0 (yJ.wrap (yJ.wrap ((s[4].toNat:Nat):Int)*4294967296))=((q 4:Nat):Int):=by have z:=hq 4 g4;rw [qn] at z;exact z
 have e3:bits .or .u64 ((q 4:Nat):Int) (yJ.wrap (yJ.wrap ((s[3].toNat:Nat):Int)*16777216))=((q 3:Nat):Int):=hq 3 g3;have e2:bits .or .u64 ((q 3:Nat):Int) (yJ.wrap (yJ.wrap ((s[2].toNat:Nat):Int)*65536))=((q 2:Nat):Int):=hq 2 g2;have e1:bits .or .u64 ((q 2:Nat):Int) (yJ.wrap (yJ.wrap ((s[1].toNat:Nat):Int)*256))=((q 1:Nat):Int):=hq 1 g1;have e0:bits .or .u64 ((q 1:Nat):Int) (yJ.wrap ((s[0].toNat:Nat):Int))=((q 0:Nat):Int):=nD hq g0;have hi:(s.size:Int)=5:=by omega
 generalize q 0=p0 at *;generalize q 1=p1 at *;generalize q 2=p2 at *;generalize q 3=p3 at *;generalize q 4=p4 at *;have HQ:=yN q0;go_enter func351,ntmps351;go_wp2;go_ret;exact⟨gO (by rw [← HQ.o]),rfl⟩
theorem a3V (s:ByteArray) (w:World) (h:s.size=6) :
  Calls yM 351 #[yA s] w fun e w'=>e = .returned (yE yJ (le s.data.toList))∧w=w':=by
 obtain⟨q,q0,qn,hq⟩:=x9 s (by omega);rw [h] at qn;have g5:5<s.size:=by omega
 have g4:4<s.size:=by omega
 have g3:3<s.size:=by omega
 have g2:2<s.size:=by omega
 have g1:1<s.size:=by omega
 have g0:0<s.size:=by omega
 have e5:bits .or .u64 0 (yJ.wrap (yJ.wrap ((s[5].toNat:Nat):Int)*1099511627776))=((q 5:Nat):Int):=by have z:=hq 5 g5;rw [qn] at z;exact z
 have e4:bits .or .u64 ((q 5:Nat):Int) (yJ.wrap (yJ.wrap ((s[4].toNat:Nat):Int)*4294967296))=((q 4:Nat):Int):=hq 4 g4;have e3:bits .or .u64 ((q 4:Nat):Int) (yJ.wrap (yJ.wrap ((s[3].toNat:Nat):Int)*16777216))=((q 3:Nat):Int):=hq 3 g3;have e2:bits .or .u64 ((q 3:Nat):Int) (yJ.wrap (yJ.wrap ((s[2].toNat:Nat):Int)*65536))=((q 2:Nat):Int):=hq 2 g2;have e1:bits .or .u64 ((q 2:Nat):Int) (yJ.wrap (yJ.wrap ((s[1].toNat:Nat):Int)*256))=((q 1:Nat):Int):=hq 1 g1;have e0:bits .or .u64 ((q 1:Nat):Int) (yJ.wrap ((s[0].toNat:Nat):Int))=((q 0:Nat):Int):=nD hq g0;have hi:(s.size:Int)=6:=by omega
 generalize q 0=p0 at *;generalize q 1=p1 at *;generalize q 2=p2 at *;generalize q 3=p3 at *;generalize q 4=p4 at *;generalize q 5=p5 at *;have HQ:=yN q0;go_enter func351,ntmps351;go_wp2;go_ret;exact⟨gO (by rw [← HQ.o]),rfl⟩
theorem a3W (s:ByteArray) (w:World) (h:s.size=7) :
  Calls yM 351 #[yA s] w fun e w'=>e = .returned (yE yJ (le s.data.toList))∧w=w':=by
 obtain⟨q,q0,qn,hq⟩:=x9 s (by omega);rw [h] at qn;have g6:6<s.size:=by omega
 have g5:5<s.size:=by omega
 have g4:4<s.size:=by omega
 have g3:3<s.size:=by omega
 have g2:2<s.size:=by omega
 have g1:1<s.size:=by omega
 have g0:0<s.size:=by omega
 have e6:bits .or .u64 0 (yJ.wrap (yJ.wrap ((s[6].toNat:Nat):Int)*281474976710656))=((q 6:Nat):Int):=by have z:=hq 6 g6;rw [qn] at z;exact z
 have e5:bits .or .u64 ((q 6:Nat):Int) (yJ.wrap (yJ.wrap ((s[5].toNat:Nat):Int)*1099511627776))=((q 5:Nat):Int):=hq 5 g5;have e4:bits .or .u64 ((q 5:Nat):Int) (yJ.wrap (yJ.wrap ((s[4].toNat:Nat):Int)*4294967296))=((q 4:Nat):Int):=hq 4 g4;have e3:bits .or .u64 ((q 4:Nat):Int) (yJ.wrap (yJ.wrap ((s[3].toNat:Nat):Int)*16777216))=((q 3:Nat):Int):=hq 3 g3;have e2:bits .or .u64 ((q 3:Nat):Int) (yJ.wrap (yJ.wrap ((s[2].toNat:Nat):Int)*65536))=((q 2:Nat):Int):=hq 2 g2;have e1:bits .or .u64 ((q 2:Nat):Int) (yJ.wrap (yJ.wrap ((s[1].toNat:Nat):Int)*256))=((q 1:Nat):Int):=hq 1 g1;have e0:bits .or .u64 ((q 1:Nat):Int) (yJ.wrap ((s[0].toNat:Nat):Int))=((q 0:Nat):Int):=nD hq g0;have hi:(s.size:Int)=7:=by omega
 generalize q 0=p0 at *;generalize q 1=p1 at *;generalize q 2=p2 at *;generalize q 3=p3 at *;generalize q 4=p4 at *;generalize q 5=p5 at *;generalize q 6=p6 at *;have HQ:=yN q0;go_enter func351,ntmps351;go_wp2;go_ret;exact⟨gO (by rw [← HQ.o]),rfl⟩
theorem a3X (s:ByteArray) (w:World) (h:s.size=8) :
  Calls yM 351 #[yA s] w fun e w'=>e = .returned (yE yJ (le s.data.toList))∧w=w':=by
 obtain⟨q,q0,qn,hq⟩:=x9 s (by omega);rw [h] at qn;have g7:7<s.size:=by omega
 have g6:6<s.size:=by omega
 have g5:5<s.size:=by omega
 have g4:4<s.size:=by omega
 have g3:3<s.size:=by omega
 have g2:2<s.size:=by omega
 have g1:1<s.size:=by omega
 have g0:0<s.size:=by omega
 have e7:bits .or .u64 0 (yJ.wrap (yJ.wrap ((s[7].toNat:Nat):Int)*72057594037927936))=((q 7:Nat):Int):=by have z:=hq 7 g7;rw [qn] at z;exact z
 have e6:bits .or .u64 ((q 7:Nat):Int) (yJ.wrap (yJ.wrap ((s[6].toNat:Nat):Int)*281474976710656))=((q 6:Nat):Int):=hq 6 g6;have e5:bits .or .u64 ((q 6:Nat):Int) (yJ.wrap (yJ.wrap ((s[5].toNat:Nat):Int)*1099511627776))=((q 5:Nat):Int):=hq 5 g5;have e4:bits .or .u64 ((q 5:Nat):Int) (yJ.wrap (yJ.wrap ((s[4].toNat:Nat):Int)*4294967296))=((q 4:Nat):Int):=hq 4 g4;have e3:bits .or .u64 ((q 4:Nat):Int) (yJ.wrap (yJ.wrap ((s[3].toNat:Nat):Int)*16777216))=((q 3:Nat):Int):=hq 3 g3;have e2:bits .or .u64 ((q 3:Nat):Int) (yJ.wrap (yJ.wrap ((s[2].toNat:Nat):Int)*65536))=((q 2:Nat):Int):=hq 2 g2;have e1:bits .or .u64 ((q 2:Nat):Int) (yJ.wrap (yJ.wrap ((s[1].toNat:Nat):Int)*256))=((q 1:Nat):Int):=hq 1 g1;have e0:bits .or .u64 ((q 1:Nat):Int) (yJ.wrap ((s[0].toNat:Nat):Int))=((q 0:Nat):Int):=nD hq g0;have hi:(s.size:Int)=8:=by omega
 generalize q 0=p0 at *;generalize q 1=p1 at *;generalize q 2=p2 at *;generalize q 3=p3 at *;generalize q 4=p4 at *;generalize q 5=p5 at *;generalize q 6=p6 at *;generalize q 7=p7 at *;have HQ:=yN q0;go_enter func351,ntmps351;go_wp2;go_ret;exact⟨gO (by rw [← HQ.o]),rfl⟩
theorem aYQ (s:ByteArray) (w:World) (h:s.size≤8) :
  Calls yM 351 #[yA s] w fun e w'=>e = .returned (yE yJ (le s.data.toList))∧w=w':=by
 by_cases h0:s.size=0;·exact a3P s w h0
 by_cases h1:s.size=1;·exact a3Q s w h1
 by_cases h2:s.size=2;·exact a3R s w h2
 by_cases h3:s.size=3;·exact a3S s w h3
 by_cases h4:s.size=4;·exact a3T s w h4
 by_cases h5:s.size=5;·exact a3U s w h5
 by_cases h6:s.size=6;·exact a3V s w h6
 by_cases h7:s.size=7;·exact a3W s w h7
 exact a3X s w (by omega)
end
section
attribute [local irreducible] le
def W (n:Nat):UInt64:=UInt64.ofNat n
theorem ZR (n:Nat) (h:n<18446744073709551616):nu (W n)=(n:Int):=by
 rw [yZ];unfold W;rw [UInt64.toNat_ofNat_of_lt' h]
def ab (l:List UInt8) (s:S4):Nat→S4
 | 0=>s
 | k+1=>tk (W (le ((l.drop (8*k)).take 8))) (ab l s k)
def first (k0 k1:UInt64):S4:=⟨k0 ^^^ 8317987319222330741,k1 ^^^ 7237128888997146477,k0 ^^^ 7816392313619706465,k1 ^^^ 8387220255154660723⟩
def LK (l:List UInt8):Nat:=le (l.drop (8*(l.length / 8)))+l.length % 256*72057594037927936
def closing (s:S4):UInt64:=
 let t:=mI 4 ⟨s.v0,s.v1,s.v2 ^^^ 255,s.v3⟩
 t.v0 ^^^ t.v1 ^^^ t.v2 ^^^ t.v3
def MB (k0 k1:UInt64) (l:List UInt8):UInt64:=closing (tk (W (LK l)) (ab l (first k0 k1) (l.length / 8)))
theorem a5Z (x:UInt64):bits .xor .u64 (nu x) 8317987319222330741=nu (x ^^^ 8317987319222330741):=by
 rw [← BH,yZ 8317987319222330741];rfl
theorem a52 (x:UInt64):bits .xor .u64 (nu x) 7237128888997146477=nu (x ^^^ 7237128888997146477):=by
 rw [← BH,yZ 7237128888997146477];rfl
theorem a56 (x:UInt64):bits .xor .u64 (nu x) 7816392313619706465=nu (x ^^^ 7816392313619706465):=by
 rw [← BH,yZ 7816392313619706465];rfl
theorem a57 (x:UInt64):bits .xor .u64 (nu x) 8387220255154660723=nu (x ^^^ 8387220255154660723):=by
 rw [← BH,yZ 8387220255154660723];rfl
theorem a1H (x:UInt64):bits .xor .u64 (nu x) 255=nu (x ^^^ 255):=by
 rw [← BH,yZ 255];rfl
attribute [local go_sem] XP BH a5Z a52 a56 a57 a1H
theorem a3Y (l:List UInt8) (h:l.length≤8):le l<18446744073709551616:=by
 have h1:=YC l;have h2:(256:Nat) ^ l.length≤256 ^ 8:=Nat.pow_le_pow_right (by decide) h;have h3:(256:Nat) ^ 8=18446744073709551616:=by decide
 omega
def wv (s:ByteArray):UInt64:=W (le s.data.toList)
theorem aJU (s:ByteArray):wv s=W (le s.data.toList):=rfl
theorem aIN (s:ByteArray) (w:World) (h:s.size≤8) :
  Calls yM 351 #[yA s] w fun e w'=>e = .returned (yE yJ (nu (wv s)))∧w=w':=by
 unfold wv;rw [ZR _ (a3Y _ (by rw [lI];exact h))];exact aYQ s w h
theorem a1I (a n:Nat) (ha:a<72057594037927936) :
  bits .or .u64 (nu (W a)) (yJ.wrap ((n:Int)*72057594037927936))=nu (W (a+n % 256*72057594037927936)):=by
 rw [ZR a (by omega),ZR _ (by omega)];have e:yJ.wrap ((n:Int)*72057594037927936)=((72057594037927936*(n % 256):Nat):Int):=by
  rw [KA];omega
 rw [e,u64_or_nat _ _ (by omega) (by omega),Nat.or_comm];have:=Nat.two_pow_add_eq_or_of_lt (i:=56) (b:=a) ha (n % 256);have e2:(2:Nat) ^ 56=72057594037927936:=by decide
 rw [e2] at this;rw [← this];congr 1;omega
theorem a3Z (l:List UInt8) (h:l.length≤7):le l<72057594037927936:=by
 have h1:=YC l;have h2:(256:Nat) ^ l.length≤256 ^ 7:=Nat.pow_le_pow_right (by decide) h;have h3:(256:Nat) ^ 7=72057594037927936:=by decide
 omega
theorem aVH {a w:World} {g:Nat} (h:a.grownBy w (yP g)) (i:Nat) (u:Value):a.grownBy (w.setCell ⟨g,i,yO⟩ u) (yP g):=
 ⟨h.os,h.tape,h.output,by have:=h.size;simpa [World.setCell] using this,fun j hj hne=>(yl w ⟨g,i,yO⟩ u j (by rintro rfl;exact hne rfl)).trans (h.block j hj hne)⟩
section
variable {b:Nat} {w0 w:World} {x0 x1 x2 x3:UInt64}
theorem St.a8N (h:St b w0 w x0 x1 x2 x3) (y:UInt64):St b w0 (w.setCell ⟨b,2,yO⟩ (yE yJ (nu y))) x0 x1 y x3:=by
 obtain⟨c0,c1,c2,c3,f0,f1,f2,f3,own⟩:=h;exact⟨by go_simp,by go_simp,by go_simp,by go_simp,by go_simp,by go_simp,by go_simp,by go_simp,aVH own _ _⟩
end
def aI5:Value→Nat
 | yA s=>s.size
 | _=>0
theorem a1J (k0 k1:UInt64) (s:ByteArray) (w:World) (hs:s.size≤1000) :
  Calls yM 293 #[yF #[yE yJ (nu k0),yE yJ (nu k1)],yA s] w fun e w'=>e = .returned (yE yJ (nu (MB k0 k1 s.data.toList)))∧Below w.heap.size w w':=by
 go_enter func293,ntmps293;go_wp2_with fail
 have hst:E1 (w.heap.size+1)
   ((w.alloc (Obj.cells #[Value.int yJ (nu k0),Value.int yJ (nu k1)] 24)).alloc (Obj.cells #[Value.int yJ (nu (k0 ^^^ 8317987319222330741)),Value.int yJ (nu (k1 ^^^ 7237128888997146477)),Value.int yJ (nu (k0 ^^^ 7816392313619706465)),Value.int yJ (nu (k1 ^^^ 8387220255154660723))] 441))
   ((w.alloc (Obj.cells #[Value.int yJ (nu k0),Value.int yJ (nu k1)] 24)).alloc (Obj.cells #[Value.int yJ (nu (k0 ^^^ 8317987319222330741)),Value.int yJ (nu (k1 ^^^ 7237128888997146477)),Value.int yJ (nu (k0 ^^^ 7816392313619706465)),Value.int yJ (nu (k1 ^^^ 8387220255154660723))] 441))
   (first k0 k1):=
  ⟨by go_simp;rfl,by go_simp;rfl,by go_simp;rfl,by go_simp;rfl,by go_simp,by go_simp,by go_simp,by go_simp,⟨rfl,rfl,rfl,ye _,fun _ _ _=>rfl⟩⟩
 have hb0:Below w.heap.size w ((w.alloc (Obj.cells #[Value.int yJ (nu k0),Value.int yJ (nu k1)] 24)).alloc (Obj.cells #[Value.int yJ (nu (k0 ^^^ 8317987319222330741)),Value.int yJ (nu (k1 ^^^ 7237128888997146477)),Value.int yJ (nu (k0 ^^^ 7816392313619706465)),Value.int yJ (nu (k1 ^^^ 8387220255154660723))] 441)):=
  ((yk _ _).alloc (ye _) _).alloc (by simp) _
 generalize ((w.alloc _).alloc _)=W2 at hst hb0 ⊢;have HST:=yN hst
 go_loopw [1] (fun v wr=>∃ (k:Nat) (z:ByteArray),v=yA z∧8*k≤s.size∧z.size≤1000∧Hid (z.data.toList=s.data.toList.drop (8*k))∧E1 (w.heap.size+1) W2 wr (ab s.data.toList (first k0 k1) k)) (fun v _=>aI5 v)
 case atStart=>exact⟨0,s,rfl,by omega,hs,yN (by simp),HST.o⟩
 obtain⟨k,z,rfl,hk,hz,HZ,hst⟩:=hrel;have HS:=yN hst;by_cases h8:8≤z.size
 ·have hm:8*(k+1)≤s.size∧(z.extract 0 8).data.toList=(s.data.toList.drop (8*k)).take 8∧(z.extract 8 z.size).data.toList=s.data.toList.drop (8*(k+1)):=by
   have e1:=HZ.o;have e2:z.size=s.size-8*k:=by rw [← lI z,e1,zg,lI]
   refine⟨by omega,?_,?_⟩;·rw [Lib.extract_data,e1,List.drop_zero]
   rw [Lib.extract_data,e1,List.take_of_length_le (by rw [zg,zg,lI];omega),List.drop_drop];congr 1
  have HM:=yN hm.2;have jQ:=hm.1;have z8:(z.extract 0 8).size≤8:=by rw [ByteArray.size_extract];omega
  have zz:(z.extract 8 z.size).size≤1000:=by rw [ByteArray.size_extract];omega
  go_wp2_with fail;refine (aIN (z.extract 0 8) _ z8).mono ?_;rintro e w1 ⟨rfl,rfl⟩;go_wp2_with fail;refine (Q5 (w.heap.size+1) _ _ _ _ HS.o).mono ?_;rintro e w1 ⟨rfl,hst⟩;rw [aJU,HM.o.1] at hst;have HS:=yN hst;go_wp2_with fail
  go_roundw
  case rel=>exact⟨k+1,z.extract 8 z.size,rfl,jQ,zz,yN HM.o.2,HS.o⟩
  case measure=>simp [aI5];omega
 have hq:s.data.toList.length / 8=k∧z.data.toList=s.data.toList.drop (8*(s.data.toList.length / 8))∧LK s.data.toList=le z.data.toList+s.size % 256*72057594037927936:=by
  have e1:=HZ.o;have e2:z.size=s.size-8*k:=by rw [← lI z,e1,zg,lI]
  have e3:s.data.toList.length / 8=k:=by rw [lI];omega
  refine⟨e3,by rw [e3,e1],?_⟩;unfold LK;rw [e3,← e1,lI]
 have HQ:=yN hq;have a8O:=a3Z z.data.toList (by rw [lI];omega);have HO:=yN (a1I (le z.data.toList) s.size a8O);go_wp2_with fail;refine (aIN z _ (by omega)).mono ?_;rintro e w1 ⟨rfl,rfl⟩;go_wp2_with fail;rw [aJU,HO.o,← HQ.o.2.2];refine (Q5 (w.heap.size+1) _ _ _ _ HS.o).mono ?_;rintro e w1 ⟨rfl,hst⟩;have kL:MB k0 k1 s.data.toList=closing (tk (W (LK s.data.toList)) (ab s.data.toList (first k0 k1) k)):=by
  unfold MB;rw [HQ.o.1]
 have HF:=yN kL;generalize tk (W (LK s.data.toList)) (ab s.data.toList (first k0 k1) k)=q at hst HF;obtain⟨q0,q1,q2,q3⟩:=q;have H:Hid (St (w.heap.size+1) W2 w1 q0 q1 q2 q3):=hst;have ⟨c0,c1,c2,c3,f0,f1,f2,f3,_⟩:=H.o;have fW:closing ⟨q0,q1,q2,q3⟩=(mI 4 ⟨q0,q1,q2 ^^^ 255,q3⟩).v0 ^^^ (mI 4 ⟨q0,q1,q2 ^^^ 255,q3⟩).v1 ^^^ (mI 4 ⟨q0,q1,q2 ^^^ 255,q3⟩).v2 ^^^ (mI 4 ⟨q0,q1,q2 ^^^ 255,q3⟩).v3:=rfl;rw [fW] at HF;go_wp2_with fail;refine (aE9 (w.heap.size+1) 4 ⟨q0,q1,q2 ^^^ 255,q3⟩ W2 _ (H.o.a8N (q2 ^^^ 255)) (by omega)).mono ?_;generalize mI 4 ⟨q0,q1,q2 ^^^ 255,q3⟩=t at HF ⊢;rintro e w3 ⟨rfl,hst⟩;obtain⟨t0,t1,t2,t3⟩:=t;have H3:Hid (St (w.heap.size+1) W2 w3 t0 t1 t2 t3):=hst;have ⟨c0,c1,c2,c3,f0,f1,f2,f3,_⟩:=H3.o;go_wp2;go_ret;exact⟨gO (congrArg nu HF.o.symm),Below.grown hb0 H3.o.own hb0.size (fun k hk=>by cases hk;omega)⟩
end
end Go.Proofs.YtcldomgdkhenpaaGreat.Sip
