/- Lemmas. -/
import Derived.Test.YtcldomgdkhenpaaGreatJ18
import Derived.Sort.LoopGhostIn
set_option linter.unusedVariables false
set_option maxRecDepth 1000000
set_option maxHeartbeats 40000000
open Go.Proofs.Tryz
open Go.Proofs.Tryz renaming prog → yM
open Go.Value renaming string → yA,pointer → yB,slice → yC,int → yE,func → yG
open Go.IntKind renaming i64 → yH
open Go.Obj renaming cells → yL
open Option renaming none → yO,some → yP
open Go.Lib renaming hid → yN
open And renaming intro → yd
open ByteArray renaming empty → yj
open Go.RowKit.Below renaming refl → yk,trans → yn
open List renaming append_assoc → zf,append_nil → zi,length_cons → zh
open Nat renaming le_refl → ye,le_trans → yf,lt_of_lt_of_le → yi
open Go.RowKit
namespace Go.Proofs.YtcldomgdkhenpaaGreat
section
open Go.Shelf
attribute [local go_sem] Oper.semAt_some
variable {wv fJ:Value} {cb B0 B lvl:Nat} {Y Y':Nat→Bool} {W W':World}
theorem a05 (Z:Nat→Bool) (w:World) (rv:Value) (n:Nat) (xs:List Pr) {a8H:Nat} (hr:Root (bO Z w) rv n xs a8H) (hl:xs.length≤1000) :
  Calls yM 324 #[rv] w fun e w'=>∃ cb Y wv f,e = .returned (yB (yP ⟨cb,0,yO⟩))∧Cur w.heap.size Y w' cb wv [f]∧f.rest=xs∧Kept w w'∧∀ i,Y i=true→Z i=true∨w.heap.size≤i:=by
 obtain⟨lvl,hlv,hr⟩:∃ k,k≤13∧Root (bO Z w) rv n xs k:=by
  rcases hr with ⟨b,h1,h2⟩ | h
  ·exact⟨_,h2.lvl,.inl ⟨b,h1,h2⟩⟩
  exact⟨0,by omega,.inr h⟩
 have H:=yN hr;go_enter func324,ntmps324;go_wp2_with fail;refine (XN (bO Z w) w rv n xs lvl H.o (BB Z w) hl).mono ?_;rintro e w1 ⟨f,rfl,hp,hk,hz,pn,kn,zD,jB,RU,a5N⟩;have HP:=yN hp;have HK:=yN hk;have HZ:=yN hz;have HE:=yN (yd pn (yd kn (yd zD jB)));have HKp:=yN a5N;go_wp2_with fail;go_ret;obtain⟨w2,hw2⟩:∃ w2,w2=w1.alloc (yL #[f.pv,f.kv] 469):=⟨_,rfl⟩;obtain⟨w3,hw3⟩:∃ w3,w3=w2.alloc (yL #[yC (yP ⟨w1.heap.size,0,yO⟩) 1 1,yE yH 0] 473):=⟨_,rfl⟩;rw [← hw2,← hw3];have b2:w2.heap[w1.heap.size]?=yP (yL #[f.pv,f.kv] 469):=by rw [hw2];exact World.alloc_heap_new _ _
 have b3:w3.heap[w2.heap.size]?=yP (yL #[yC (yP ⟨w1.heap.size,0,yO⟩) 1 1,yE yH 0] 473):=by rw [hw3];exact World.alloc_heap_new _ _
 have s2:w2.heap.size=w1.heap.size+1:=by rw [hw2];simp
 have s3:w3.heap.size=w2.heap.size+1:=by rw [hw3];simp
 have k12:Kept w1 w2:=by rw [hw2];exact (yk _ _).alloc (ye _) _
 have k23:Kept w2 w3:=by rw [hw3];exact (yk _ _).alloc (ye _) _
 have k13:=aB k12 k23;have hs1:=HKp.o.size;have hY:∀ i,(Z i && decide (i<w.heap.size) || (decide (w.heap.size≤i) && decide (i<w1.heap.size)))=true→i<w1.heap.size∧(Z i=true∨w.heap.size≤i):=fun i hi=>by
  simp at hi;rcases hi with ⟨h1,h2⟩ | ⟨h1,h2⟩
  ·exact⟨by omega,.inl h1⟩
  exact⟨h2,.inr h1⟩
 have wE:∀ {e:TypeId} {k:Nat} {v:Value} {m:Nat} {cs:List Value},w1.ownsRow w.heap.size e k v m cs→Rd (bO (fun i=>Z i && decide (i<w.heap.size) || (decide (w.heap.size≤i) && decide (i<w1.heap.size))) w3) v m cs:=fun {e k v m cs} h=>by
  refine (XK (X:=fun i=>decide (w.heap.size≤i)) h (fun i hi=>by simpa using hi)).sub (BG fun i h1 h3=>⟨?_,k13.block i h3⟩);simp at h1 ⊢;exact .inr ⟨h1,h3⟩
 refine⟨w2.heap.size,_,_,f,by rw [s2];rfl,⟨⟨0,b3⟩,?_,?_,?_,?_,?_,?_,?_⟩,HE.o.2.2.2,aB HKp.o k13,fun i hi=>(hY i hi).2⟩;·refine⟨rfl,.inr ⟨w1.heap.size,1,_,rfl,hs1,(k23.block _ (by omega)).trans b2,ye _,by unfold maxLen;omega,rfl,rfl⟩⟩
 ·intro x hx;obtain rfl:x=f:=by simpa using hx
  refine⟨wE HP.o,wE HK.o,fun z hz=>⟨((HZ.o z hz).1).sub (BG fun i h1 h3=>⟨?_,(k13.block i (yi h3 hs1)).trans (HKp.o.block i h3)⟩),(HZ.o z hz).2⟩,HE.o.1,HE.o.2.1⟩;simp;exact .inl ⟨h1,h3⟩
 ·cases e:(Z w2.heap.size && decide (w2.heap.size<w.heap.size) || (decide (w.heap.size≤w2.heap.size) && decide (w2.heap.size<w1.heap.size))) with
  | false=>rfl
  | true=>have:=(hY _ e).1;omega
 ·intro q hq;cases hq;cases e:(Z w1.heap.size && decide (w1.heap.size<w.heap.size) || (decide (w.heap.size≤w1.heap.size) && decide (w1.heap.size<w1.heap.size))) with
  | false=>rfl
  | true=>have:=(hY _ e).1;omega
 ·intro i hi;have:=(hY i hi).1;omega
 ·omega
 exact⟨by rw [HE.o.2.2.1];exact Nat.zero_lt_succ _,by rw [HE.o.2.2.1];omega,trivial⟩
def XC (B0:Nat) (Y:Nat→Bool) (cb:Nat) (wv:Value):Nat→Bool:=fun i=>decide (B0≤i) && (Y i || decide (i=cb) || decide (wv.ownBlock=yP i))
theorem mG {i:Nat} : XC B0 Y cb wv i=true↔B0≤i∧(Y i=true∨i=cb∨wv.ownBlock=yP i):=by
 unfold XC;simp [or_assoc]
theorem aYJ {st gK:List Fr} (h:Cur B Y W cb wv st) (h':Cur B Y' W' cb fJ gK) (hs:dR cb wv Y W fJ Y' W') (hB:B0≤B):qK (XC B0 Y cb wv) (XC B0 Y' cb fJ) W W':=by
 refine⟨hs.os,hs.tape,hs.output,hs.size,fun i hi hx=>?_,fun i hi=>?_⟩
 ·have uI:¬ (B0≤i∧(Y i=true∨i=cb∨wv.ownBlock=yP i)):=fun e=>by rw [mG.2 e] at hx;cases hx
  by_cases hb:B0≤i;·exact hs.same i hi (fun e=>uI ⟨hb,.inr (.inl e)⟩) (fun e=>uI ⟨hb,.inr (.inr e)⟩)
  exact hs.same i hi (fun e=>by have:=h.b;omega) (fun e=>by have:=(h.way.lt i e).1;omega)
 obtain⟨hb,hy⟩:=mG.1 hi;refine⟨h'.sU hy,?_⟩;rcases hy with hy | hy | hy
 ·rcases hs.new i hy with e | e
  ·exact .inl (mG.2 ⟨hb,.inl e⟩)
  exact .inr e
 ·exact .inl (mG.2 ⟨hb,.inr (.inl hy)⟩)
 rcases hs.way i hy with e | e
 ·exact .inl (mG.2 ⟨hb,.inr (.inr e)⟩)
 exact .inr e
theorem qK.alloc {X:Nat→Bool} {W:World} (o:Obj) (hx:∀ i,X i=true→i<W.heap.size):qK X X W (W.alloc o):=
 ⟨rfl,rfl,rfl,by simp,fun i hi _=>Below.heap_alloc _ _ _ hi,fun i hi=>⟨by have:=hx i hi;simp;omega,.inl hi⟩⟩
theorem aSZ {st:List Fr} (h:Cur B Y W cb wv st) (hs:dR cb wv Y W fJ Y' W') (hB:B0≤B) (eB:B0≤W.heap.size):Below B0 W W':=
 ⟨hs.os,hs.tape,hs.output,hs.size,fun i hi=>hs.same i (by omega) (fun e=>by have:=h.b;omega) (fun e=>by have:=(h.way.lt i e).1;omega)⟩
theorem a06 (w0:World) (rv:Value) (n:Nat) (xs:List Pr) (bx m:Nat) (hm:2≤m) (hr:Root w0 rv n xs lvl) (hl:xs.length≤1000) (j9:w0.cell? ⟨bx,0,yO⟩=yP rv) :
  ItC m w0 323 #[yB (yP ⟨bx,0,yO⟩)] xs:=by
 intro l J W hk hM hY h0;have hc:=hk.cell j9;have j4:Sub w0 (bO (fun i=>decide (i<w0.heap.size)) W):=aJQ fun i hi=>⟨by simpa using hi,hk.block i hi⟩;have hZ:Root (bO (fun i=>decide (i<w0.heap.size)) W) rv n xs lvl:=by
  rcases hr with ⟨b,h1,h2⟩ | h
  ·exact .inl ⟨b,h1,h2.sub j4⟩
  exact .inr h
 refine callsIn_of_wp func323 rfl trivial ?_ rfl;simp only [ntmps323,List.size_toArray,zh,List.length_nil,Nat.reduceAdd,Nat.reduceSub,Array.replicate_succ,Array.replicate_zero,List.push_toArray,List.append_toArray,List.nil_append,List.cons_append];have HZ:=yN hZ;have HK:=yN hk;have H0:=yN h0
 gi_wp2
 refine⟨trivial,fun _=>by omega,(callsIn_wide.2 (a05 _ W rv n xs HZ.o hl)).mono ?_⟩;rintro e w1 ⟨cb,Y,wv,f,rfl,fC,jB,aS,hYZ⟩;have oI:=HK.o.size;have N4:J (XC w0.heap.size Y cb wv) [] w1:=by
  refine hM _ _ _ _ _ H0.o ⟨aS.os,aS.tape,aS.output,aS.size,fun i hi _=>aS.block i hi,fun i hi=>?_⟩;obtain⟨h1,h2⟩:=mG.1 hi;refine⟨fC.sU h2,.inr ?_⟩;rcases h2 with h2 | rfl | h2
  ·rcases hYZ i h2 with h3 | h3
   ·simp at h3;omega
   exact h3
  ·exact fC.b
  exact (fC.way.lt i h2).1
 have aJ:=yN (yn HK.o (aS.mono oI));have gL:=yN fC;have sS:=yN N4;have HM:=yN hM;have N5:=yN hY;have HR1:=yN jB
 gi_wp2
 gi_loopg [] xs.length (fun kx wr=>∃ (Y:Nat→Bool) (wv:Value) (st:List Fr) (pre:List Pr),Hid ((kI st).length≤kx)∧Hid (Cur W.heap.size Y wr cb wv st)∧Hid (J (XC w0.heap.size Y cb wv) pre wr)∧Hid (xs=pre++kI st)∧Hid (Kept w0 wr))
 case atStart=>exact⟨Y,wv,[f],[],yN (by rw [show kI [f]=xs from (zi _).trans HR1.o];exact ye _),gL,sS,yN (by rw [show kI [f]=xs from (zi _).trans HR1.o];rfl),aJ⟩
 obtain⟨Y,wv,st,pre,HL,HC,HJ,HX,k9⟩:=hrel;have hz:W.heap.size≤wr.heap.size:=by
  have:=HC.o.lt;have:=HC.o.b;omega
 gi_wp2
 refine⟨trivial,fun _=>by omega,(callsIn_wide.2 (aYI W.heap.size Y wr cb wv st HC.o hz)).mono ?_⟩;rintro e w2 ⟨Y',fJ,gK,fC,hstep,hres⟩;have hmv:=aYJ HC.o fC hstep oI;have N6:=yN (HM.o _ _ _ _ _ HJ.o hmv);have aH:=yN (yn k9.o (aSZ HC.o hstep oI (yf oI hz)));have bK:=yN fC;rcases hres with ⟨he,rfl⟩ | ⟨p,he,rfl⟩
 ·have EW:=yN (HM.o _ _ _ _ _ N6.o (qK.alloc (yL #[yA yj,yA yj] 52) (fun i hi=>bK.o.sU (mG.1 hi).2)));have aL:=yN (aH.o.alloc (yf oI (by have:=bK.o.lt;have:=bK.o.b;omega)) (yL #[yA yj,yA yj] 52));have jR:=yN (show xs=pre by rw [HX.o,he,zi])
  gi_wp2
  refine⟨fun _ h=>(by cases h),?_⟩
  gi_wp2
  refine bodyPost_ret (results_none rfl _ _ _) rfl ?_;rw [jR.o];exact⟨⟨_,rfl⟩,aL.o,_,EW.o⟩
 have eW:pre ++ [p] <+: xs:=by rw [HX.o,he];exact⟨kI gK,by simp⟩
 have hz2:=bK.o.lt;have hb2:=bK.o.b;have EW:=yN (HM.o _ _ _ _ _ N6.o (qK.alloc (yL #[yA p.1,yA p.2] 52) (fun i hi=>bK.o.sU (mG.1 hi).2)));have aL:=yN (aH.o.alloc (yf oI (by omega)) (yL #[yA p.1,yA p.2] 52));obtain⟨fn,tmps,assign,body,hy,hR⟩:=N5.o _ _ p _ EW.o eW aL.o;unfold pv at hy;have HR:=yN hR;have HE:=yN he
 gi_wp2
 refine⟨fun _=>by omega,HR.o.mono ?_⟩;rintro e w4 ⟨rfl,N7,kB,hb4⟩;have hz3:w2.heap.size<(w2.alloc (yL #[yA p.1,yA p.2] 52)).heap.size:=by simp
 have jH:=yN (bK.o.stays (W':=w4) (fun i hi=>by
  have h1:=bK.o.sU hi;by_cases h2:w0.heap.size≤i;·rw [kB i (mG.2 ⟨h2,hi⟩)];exact Below.heap_alloc _ _ _ h1
  rw [hb4.block i (by omega)];exact Below.heap_alloc _ _ _ h1) (by have:=hb4.size;omega))
 have N8:=yN N7;have aR:=yN (yn aL.o hb4)
 gi_wp2
 gi_roundg (kI gK).length
 case measure=>have:=HL.o;rw [HE.o,zh] at this;omega
 exact⟨Y',fJ,gK,pre ++ [p],yN (ye _),jH,N8,yN (by rw [HX.o,HE.o,zf];rfl),aR⟩
theorem a07 (o:Option Addr) (w:World):Calls yM 257 #[.pointer o] w fun e w'=>e = .returned (yG (.func 323) #[] #[yB (yP ⟨w.heap.size,0,yO⟩)])∧w'=w.alloc (yL #[.pointer o] 176):=by
 go_enter func257,ntmps257;go_wp2;all_goals go_ret
 all_goals exact⟨rfl,rfl⟩
theorem Root.kept {w w':World} {rv:Value} {n lvl:Nat} {xs:List Pr} (h:Root w rv n xs lvl) (hk:Kept w w'):Root w' rv n xs lvl:=by
 rcases h with ⟨b,h1,h2⟩ | h
 ·exact .inl ⟨b,h1,h2.kept hk⟩
 exact .inr h
theorem aER (rv:Value) (n:Nat) (xs:List Pr) (w:World) (hr:Root w rv n xs lvl) (hl:xs.length<40) :
  Calls yM 182 #[rv] w fun e w'=>∃ v s,e = .returned v∧iI xs s∧w'.ownsRow w.heap.size 52 2 v s.length (aK s)∧Kept w w':=by
 obtain⟨o,rfl⟩:∃ o,rv = .pointer o:=by
  rcases hr with ⟨b,h,_⟩ | ⟨h,_⟩
  ·exact⟨_,h⟩
  exact⟨_,h⟩
 obtain⟨aA,hb⟩:=aW w (yL #[.pointer o] 176);have hc:(w.alloc (yL #[.pointer o] 176)).cell? ⟨w.heap.size,0,yO⟩=yP (.pointer o):=aG hb rfl;have HC:=yN (aEQ _ 323 _ xs (by omega) (enters_of func323 (by kernel_rfl) rfl) (a06 _ _ n xs w.heap.size 3 (by decide) (hr.kept aA) (by omega) hc));have HA:=yN aA;go_enter func182,ntmps182;go_wp2_with fail;refine (a07 o w).mono ?_;rintro e w1 ⟨rfl,rfl⟩;go_wp2_with fail;refine (HC.o).mono ?_;rintro e w2 ⟨v,rfl,ho,hk⟩;have HO:=yN ho;have HK:=yN hk;go_wp2_with fail;refine (U6 xs.length v xs w2 (dH HO.o) rfl hl).mono ?_;rintro e w3 ⟨v',s,rfl,ho,hs,hk⟩;have dZ:=yN (yd ho (yd hs hk));go_wp2_with fail;go_ret;refine⟨v',s,rfl,dZ.o.2.1,dG dZ.o.1 ?_,aB HA.o (aB HK.o dZ.o.2.2)⟩;exact yf HA.o.size HK.o.size
end
end Go.Proofs.YtcldomgdkhenpaaGreat
