/- Lemmas. -/
import Derived.Test.YtcldomgdkhenpaaGreatJ12
import Derived.RangeFuncNested
import Derived.RangeFuncBound
import Derived.RangeFuncCalls
import Derived.RangeFuncLeaves
import Derived.RangeFuncBox
import Derived.Shelf.Abstract
import Derived.Shelf.RegionOpen
import Derived.OwnWalkIn
import Derived.TacticsInMore
import Derived.LoopNIn
import Derived.LoopIn
set_option linter.unusedVariables false
set_option maxRecDepth 1000000
set_option maxHeartbeats 40000000
open Go.Proofs.Tryz
open Go.Proofs.Tryz renaming prog → yM
open Go.Value renaming string → yA,bool → yD,agg → yF,func → yG
open Option renaming none → yO,some → yP
open Array renaming getElem?_eq_some_iff → yo
open Go.RowKit.Below renaming refl → yk,trans → yn
open Nat renaming le_refl → ye
open Go.RowKit
namespace Go.Proofs.YtcldomgdkhenpaaGreat
section
open Go.Shelf
attribute [local go_sem] Oper.semAt_some
structure qK (X Y:Nat→Bool) (W W':World):Prop where
 os:W'.os=W.os
 tape:W'.tape=W.tape
 output:W'.output=W.output
 size:W.heap.size≤W'.heap.size
 same:∀ i,i<W.heap.size→X i=false→W'.heap[i]?=W.heap[i]?
 sub:∀ i,Y i=true→i<W'.heap.size∧(X i=true∨W.heap.size≤i)
def pv (p:Pr):Value:=yF #[yA p.1,yA p.2]
def ItC (n:Nat) (w0:World) (F:Nat) (eN:Array Value) (xs:List Pr):Prop:=
 ∀ (l:Nat) (J:(Nat→Bool)→List Pr→World→Prop) (W:World),Kept w0 W→
  (∀ X Y pre W W',J X pre W→qK X Y W W'→J Y pre W')→
  (∀ X pre p W,J X pre W→pre ++ [p] <+: xs→Kept w0 W→YieldAt Fence.wide (n-1) yM l #[pv p] W fun e W'=>
   e = .returned (yD true)∧J X (pre ++ [p]) W'∧(∀ i,X i=true→W'.heap[i]?=W.heap[i]?)∧Below w0.heap.size W W')→
  J (fun _=>false) [] W→
  CallsIn Fence.wide n yM F (#[.func (.yield l) #[] #[]]++eN) W fun e W'=>(∃ v,e = .returned v)∧Kept w0 W'∧∃ X,J X xs W'
structure qO (B:Nat) (W W':World):Prop where
 os:W'.os=W.os
 tape:W'.tape=W.tape
 output:W'.output=W.output
 size:W.heap.size≤W'.heap.size
 same:∀ (k:Nat) (o:Obj),W.heap[k]?=yP o→(k<B∨o.isCells=true)→W'.heap[k]?=yP o
theorem qO.alloc (B:Nat) (W:World) (o:Obj):qO B W (W.alloc o):=
 ⟨rfl,rfl,rfl,by simp,fun k o' hk _=>(Below.heap_alloc W o k (yo.1 hk).1).trans hk⟩
theorem qO.put (B:Nat) (W:World) {l:Nat} {o:Obj} (o':Obj) (hl:W.heap[l]?=yP o) (hB:B≤l) (ho:o.isCells=false):qO B W (W.putObj l o'):=
 ⟨rfl,rfl,rfl,by simp,fun k o2 hk hc=>by
  have hne:k≠l:=by
   rintro rfl;rw [hl] at hk;cases hk;rcases hc with h | h
   ·omega
   rw [ho] at h;cases h
  exact (World.putObj_heap_other hne).trans hk⟩
theorem qO.below {B C:Nat} {W W':World} (h:qO C W W') (hB:B≤C) (hs:B≤W.heap.size):Below B W W':=
 ⟨h.os,h.tape,h.output,h.size,fun k hk=>by
  have hlt:k<W.heap.size:=by omega
  have hg:=Array.getElem?_eq_getElem hlt;rw [hg]
  exact h.same k _ hg (.inl (by omega))⟩
structure Leave (X:Nat→Bool) (B b0:Nat) (W W':World):Prop where
 below:Below b0 W W'
 keep:∀ i,X i=true→W'.heap[i]?=W.heap[i]?
 same:∀ (k:Nat) (o:Obj),B≤k→W.heap[k]?=yP o→o.isCells=false→W'.heap[k]?=yP o
def aSX (X:Nat→Bool) (B b0:Nat) (I:(Nat→Bool)→List Pr→World→Prop) (xs:List Pr) (W:World):Exit→Act→World→Prop
 | .normal,_,W'=>Leave X B b0 W W'∧I X xs W'
 | _,_,_=>False
theorem aU9 {g:Operand} {ps:Array Tmp} {assign body:Code} {Q:Exit→Act→World→Prop} {a:Act} {w w0:World} {n F:Nat} {eN:Array Value} {xs:List Pr} (hn:4≤n)
  (hg:a.eval g=yG (.func F) #[] eN) (ET:ps.size=1) (enter:∀ args W,(callFunc F args).run yM W = .ok (.enter F args) W) (bF:Kept w0 w) (hit:ItC (n-1) w0 F eN xs)
  (I:(Nat→Bool)→List Pr→World→Prop) (bx:Pr→Obj) (j9:∀ p,(bx p).isCells=true)
  (hI:∀ X pre W W',I X pre W→qO w.heap.size W W'→I X pre W') (hM:∀ X Y pre W W',I X pre W→qK X Y W W'→I Y pre W')
  (hX:∀ X pre W,I X pre W→∀ i,X i=true→i<W.heap.size)
  (h0:I (fun _=>false) [] w) (a₁:Pr→Nat→Act)
  (WW:∀ (l:Nat) (p:Pr) (W:World) (K:Act→World→Prop),K (a₁ p W.heap.size) (W.alloc (bx p))→
   assign.wpIn (Fence.wide.inRound l) (n-1-1) yM (Exit.then K (fun _ _ _=>False)) { tmps:=(ps.zip #[pv p]).foldl (fun t (p,v)=>t.setIfInBounds p v) a.tmps,defers:=[] } W)
  (YB:∀ (l c:Nat) (X:Nat→Bool) (pre:List Pr) (p:Pr) (W:World),I X pre W→pre ++ [p] <+: xs→w.heap.size≤W.heap.size→Kept w0 W→X c=false→w.heap.size≤c→W.heap[c]?=yP (bx p)→
   body.wpIn (Fence.wide.inRound l) (n-1-1) yM (aSX X w.heap.size w0.heap.size I (pre ++ [p]) W) (a₁ p c) W)
  (hdone:∀ (D:Nat) (X:Nat→Bool) (W:World),w.heap.size≤D→I X xs W→Kept w0 W→W.heap[D]?=yP (.deferred (yP []))→Q .normal { a with defers:={ target:=.collected D,args:=#[] } :: a.defers } W) :
  (Code.rangeFunc g ps assign body).wpIn Fence.wide n yM Q a w:=by
 refine wpIn_rangeFunc ?_;intro fn _;show ∃ _,_;obtain⟨book,mW⟩:∃ book:LoopState→Option Code→Loop,book=fun st pe=>{ state:=st,pending:=pe,fn,tmps:=a.tmps,params:=ps,assign,body,defers:=w.heap.size }:=⟨_,rfl⟩;obtain⟨W1,hW1⟩:∃ W1,(w.alloc (.deferred (yP []))).alloc (.loop (book .ready yO))=W1:=⟨_,rfl⟩;have l1:W1.heap[w.heap.size+1]?=yP (.loop (book .ready yO)):=by
  rw [← hW1];have h:=World.alloc_heap_new (w.alloc (.deferred (yP []))) (.loop (book .ready yO));rwa [World.size_alloc] at h
 have d1:W1.heap[w.heap.size]?=yP (.deferred (yP [])):=by
  rw [← hW1];exact (Below.heap_alloc _ _ _ (by simp)).trans (World.alloc_heap_new w _)
 have i1:I (fun _=>false) [] W1:=by rw [← hW1];exact hI _ _ _ _ (hI _ _ _ _ h0 (.alloc _ _ _)) (.alloc _ _ _)
 have k1:Kept w0 W1:=by
  have h1:=bF.size;rw [← hW1];exact (bF.alloc h1 _).alloc (by simp;omega) _
 refine⟨w.heap.size+1,[{ target:=.collected w.heap.size,args:=#[] }],W1,{ target:=.fn (.func F) eN,args:=#[.func (.yield (w.heap.size+1)) #[] #[]] },W1,F,
  #[.func (.yield (w.heap.size+1)) #[] #[]]++eN,W1,?_,?_,fun _ _=>trivial,?_,fun _=>by omega,?_⟩
 ·rw [← hW1,mW];exact run_enterLoop_outer _ _ _ _ _
 ·simp only [resolve,hg];simp [go_sem]
 ·simp [invoke,go_sem,enter]
 refine (hit (w.heap.size+1)
  (fun X pre W=>I X pre W∧W.heap[w.heap.size+1]?=yP (.loop (book .ready yO))∧W.heap[w.heap.size]?=yP (.deferred (yP []))∧w.heap.size≤W.heap.size∧X (w.heap.size+1)=false∧X w.heap.size=false) W1 k1
  ?_ ?_ ⟨i1,l1,d1,by rw [← hW1];simp;omega,rfl,rfl⟩).mono ?_
 ·rintro X Y pre W W' ⟨p1,p2,p3,p4,p5,p6⟩ hm;have q2:=(yo.1 p2).1;have hs:=hm.size;refine⟨hM _ _ _ _ _ p1 hm,(hm.same _ q2 p5).trans p2,(hm.same _ (by omega) p6).trans p3,by omega,?_,?_⟩
  ·cases e:Y (w.heap.size+1) with
   | false=>rfl
   | true=>rcases (hm.sub _ e).2 with h | h;rw [p5] at h;cases h;omega
  cases e:Y w.heap.size with
  | false=>rfl
  | true=>rcases (hm.sub _ e).2 with h | h;rw [p6] at h;cases h;omega
 ·rintro X pre p W ⟨hi,hl,hd,hsz,hx1,hx2⟩ eW oG;have hlt:w.heap.size+1<W.heap.size:=(yo.1 hl).1;have hy:=run_yield (P:=yM) (args:=#[pv p]) hl (by rw [mW];exact ET.symm);rw [mW] at hy;obtain⟨Wa,CH⟩:∃ Wa,W.alloc (bx p)=Wa:=⟨_,rfl⟩;have la:Wa.heap[w.heap.size+1]?=yP (.loop (book .ready yO)):=by rw [← CH];exact (Below.heap_alloc _ _ _ hlt).trans hl
  have da:Wa.heap[w.heap.size]?=yP (.deferred (yP [])):=by rw [← CH];exact (Below.heap_alloc _ _ _ (by omega)).trans hd
  have ia:I X pre Wa:=by rw [← CH];exact hI _ _ _ _ hi (.alloc _ _ _)
  have ca:Wa.heap[W.heap.size]?=yP (bx p):=by rw [← CH];exact World.alloc_heap_new _ _
  have sa:W.heap.size<Wa.heap.size:=by rw [← CH];simp
  have ba:∀ b0,b0≤W.heap.size→Below b0 W Wa:=fun b0 hb=>by rw [← CH];exact (yk _ _).alloc hb _
  have aK8:=oG.size;refine⟨fn,_,assign,body,hy,roundIn_of_wpIn trivial (WW _ p W _ ⟨_,by rw [CH];exact run_beginRound la (by rw [mW]),?_⟩)⟩;obtain⟨Wb,sW⟩:∃ Wb,Wa.putObj (w.heap.size+1) (.loop { book .ready yO with state:=.busy })=Wb:=⟨_,rfl⟩;have lb:Wb.heap[w.heap.size+1]?=yP (.loop { book .ready yO with state:=.busy }):=by rw [← sW];exact World.putObj_heap_same (by omega)
  have db:Wb.heap[w.heap.size]?=yP (.deferred (yP [])):=by rw [← sW];exact (World.putObj_heap_other (by omega)).trans da
  have nb:qO w.heap.size Wa Wb:=by rw [← sW];exact .put _ _ _ la (by omega) rfl
  have ib:I X pre Wb:=hI _ _ _ _ ia nb;have cb:Wb.heap[W.heap.size]?=yP (bx p):=nb.same _ _ ca (.inr (j9 p));have sb:w.heap.size≤Wb.heap.size:=by have:=nb.size;omega
  have xc:X W.heap.size=false:=by
   cases e:X W.heap.size with
   | false=>rfl
   | true=>exact absurd (hX _ _ _ hi _ e) (by omega)
  have bb0:Below w0.heap.size Wa Wb:=by rw [← sW];exact⟨rfl,rfl,rfl,by simp,fun i hi=>World.putObj_heap_other (by have:=bF.size;omega)⟩
  have kb:Below w0.heap.size W Wb:=(ba _ aK8).trans bb0;have xb:∀ i,X i=true→Wb.heap[i]?=W.heap[i]?:=fun i hi'=>by
   have h1:=hX _ _ _ hi _ hi';have h2:i≠w.heap.size+1:=by rintro rfl;rw [hx1] at hi';cases hi'
   rw [← sW,World.putObj_heap_other h2,← CH];exact Below.heap_alloc _ _ _ h1
  rw [sW];refine wpIn_mono (YB _ _ X pre p Wb ib eW sb (yn oG kb) xc (by omega) cb) ?_;rintro e a3 W3 hp;cases e with
  | normal=>
   obtain⟨hv,zZ⟩:=hp;have l3:=hv.same _ _ (by omega) lb rfl;have d3:=hv.same _ _ (ye _) db rfl;have h:=run_endRound (P:=yM) yO l3;rw [mW] at h l3 ⊢;have n3:qO w.heap.size W3 (W3.putObj (w.heap.size+1) (.loop (book .ready yO))):=.put _ _ _ l3 (by omega) rfl;have hz:=hv.below.size;refine⟨_,_,h,rfl,⟨?_,?_,?_,?_,hx1,hx2⟩,?_,?_⟩;·rw [mW] at n3;exact hI _ _ _ _ zZ n3
   ·exact World.putObj_heap_same (yo.1 l3).1
   ·exact (World.putObj_heap_other (by omega)).trans d3
   ·simp;omega
   ·intro i hi';have h2:i≠w.heap.size+1:=by rintro rfl;rw [hx1] at hi';cases hi'
    exact (World.putObj_heap_other h2).trans ((hv.keep i hi').trans (xb i hi'))
   refine (kb.trans hv.below).trans ⟨rfl,rfl,rfl,by simp,fun i hi=>World.putObj_heap_other (by have:=bF.size;omega)⟩
  | ret=>exact hp.elim
  | exit id=>exact hp.elim
  | goto t=>exact hp.elim
  | panic ch=>exact hp.elim
  | outgrown=>exact hp.elim
 rintro e W2 ⟨⟨v,rfl⟩,hk2,X,hi,hl,hd,hs2,_,_⟩;refine⟨yO,_,by have h:=run_endLoop (P:=yM) hl (by rw [mW];simp);rw [mW] at h;exact h,hdone _ X _ (ye _) (hI _ _ _ _ hi (.put _ _ _ hl (by omega) rfl)) ?_ ((World.putObj_heap_other (by omega)).trans hd)⟩;exact yn hk2 ⟨rfl,rfl,rfl,by simp,fun i hi=>World.putObj_heap_other (by have:=bF.size;omega)⟩
end
end Go.Proofs.YtcldomgdkhenpaaGreat
