/- Lemmas. -/
import Derived.Test.YtcldomgdkhenpaaGreatJ16
import Derived.Maps.OwnIn
set_option linter.unusedVariables false
set_option maxRecDepth 1000000
set_option maxHeartbeats 40000000
open Go.Proofs.Tryz
open Go.Proofs.Tryz renaming prog → yM
open Go.Value renaming string → yA,pointer → yB,slice → yC,agg → yF,func → yG
open Go.Obj renaming cells → yL
open Option renaming none → yO,some → yP
open Go.Lib renaming hid → yN
open And renaming intro → yd
open Array renaming getElem?_eq_some_iff → yo
open ByteArray renaming empty → yj
open Go.RowKit.Below renaming heap_setCell → yl,refl → yk,trans → yn
open List renaming length_append → yy,length_cons → zh
open Nat renaming le_refl → ye,lt_of_lt_of_le → yi
open Go.RowKit
namespace Go.Proofs.YtcldomgdkhenpaaGreat
section
open Go.Shelf
attribute [local go_sem] Oper.semAt_some
variable {pre:List Pr} {X:Nat→Bool} {w W W':World}
theorem aQO (w:World) (x y:Value) (t:TypeId):∀ j u,[x,y][j]?=yP u→(w.alloc (yL #[x,y] t)).cell? ((⟨w.heap.size,0,yO⟩:Addr).add j)=yP u:=by
 intro j u hj;rw [Addr.add_lit];refine aG (bM w _) ?_;rw [Nat.zero_add];simpa using hj
structure BU (w:World) (X:Nat→Bool) (pre:List Pr) (W:World):Prop where
 s:∃ v,W.heap[w.heap.size]?=yP (yL #[v] 27)∧W.ownsRow (w.heap.size+1) 52 2 v pre.length (aK pre)∧∀ g,v.ownBlock=yP g→X g=false
 b:X w.heap.size=false
 x:∀ i,X i=true→i<W.heap.size
theorem BU.ZJ {C:Nat} (h:BU w X pre W) (hn:qO C W W'):BU w X pre W':=by
 obtain⟨⟨v,hb,hr,hx⟩,h1,h2⟩:=h;refine⟨⟨v,hn.same _ _ hb (.inr rfl),cF hr fun g hg=>?_,hx⟩,h1,fun i hi=>yi (h2 i hi) hn.size⟩;obtain⟨cur,hc⟩:=dX hr hg;exact (hn.same _ _ hc (.inr rfl)).trans hc.symm
theorem BU.moves {Y:Nat→Bool} (h:BU w X pre W) (hm:qK X Y W W'):BU w Y pre W':=by
 obtain⟨⟨v,hb,hr,hx⟩,h1,h2⟩:=h;have hl:=(yo.1 hb).1;have L8:∀ g,g<W.heap.size→X g=false→Y g=false:=fun g hg N2=>by
  cases e:Y g with
  | false=>rfl
  | true=>rcases (hm.sub g e).2 with h | h;rw [N2] at h;cases h;omega
 exact⟨⟨v,(hm.same _ hl h1).trans hb,cF hr fun g hg=>hm.same g (hr.lt g hg).2 (hx g hg),fun g hg=>L8 g (hr.lt g hg).2 (hx g hg)⟩,L8 _ hl h1,fun i hi=>(hm.sub i hi).1⟩
theorem aSY (n:Nat) (w:World) (F:Nat) (eN:Array Value) (xs:List Pr) (hn:4≤n) (zK:xs.length≤100000) (enter:∀ args W,(callFunc F args).run yM W = .ok (.enter F args) W) (hit:ItC (n-1) w F eN xs) :
  CallsIn Fence.wide n yM 212 #[yC yO 0 0,yG (.func F) #[] eN] w fun e w'=>
   ∃ v,e = .returned v∧w'.ownsRow w.heap.size 52 2 v xs.length (aK xs)∧Kept w w':=by
 obtain⟨i0,hi,hz0,hz1,hz2⟩:=info_parts yU;obtain⟨w1,cR⟩:∃ w1,w1=w.alloc (yL #[yC yO 0 0] 27):=⟨_,rfl⟩;have hs:w1.heap.size=w.heap.size+1:=by rw [cR];simp
 have aS:Kept w w1:=by rw [cR];exact (yk _ w).alloc (ye _) _
 have hb1:w1.heap[w.heap.size]?=yP (yL #[yC yO 0 0] 27):=by rw [cR];exact World.alloc_heap_new w _
 refine callsIn_of_wp_marks func212 rfl trivial ?_ rfl;simp only [ntmps212,List.size_toArray,zh,List.length_nil,Nat.reduceAdd,Nat.reduceSub,Array.replicate_succ,Array.replicate_zero,List.push_toArray,List.append_toArray,List.nil_append,List.cons_append]
 gi_wp2
 rw [← cR]
 refine aU9 (w0:=w) (xs:=xs) hn rfl rfl enter aS hit (BU w) (fun p=>yL #[yA p.1,yA p.2] 52) (fun _=>rfl) (fun _ _ _ _ h hne=>h.ZJ hne) (fun _ _ _ _ _ h hm=>h.moves hm) (fun _ _ _ h=>h.x)
  ⟨⟨_,hb1,World.ownsRow_nil _ _ _ _,fun g hg=>rfl⟩,rfl,fun i hi=>by cases hi⟩
  (fun p c=>{ tmps:=#[yC yO 0 0,yG (.func F) #[] eN,yB (yP ⟨w.heap.size,0,yO⟩),undef,yC yO 0 0,yB (yP ⟨c,0,yO⟩),yG (.func F) #[] eN,pv p,undef,undef,undef,undef,undef],defers:=[] }) ?assign ?body ?done
 case assign=>
  intro l p W K hK;unfold pv
  gi_wp2
  exact hK
 case body=>
  rintro l c X pre p W ⟨⟨v,hb,hrow,hx⟩,fP,L9⟩ eW hle oG hXc hwc j9;rw [hs] at hle hwc ⊢;have hc:W.cell? ⟨w.heap.size,0,yO⟩=yP v:=aG hb rfl;have hlen:pre.length+1≤100000:=by
   have h1:=eW.length_le;simp at h1;omega
  have d0:W.cell? ⟨c,0,yO⟩=yP (yA p.1):=aG j9 rfl;have d1:W.cell? ⟨c,1,yO⟩=yP (yA p.2):=aG j9 rfl;have hZ:w.heap.size+1≤(W.alloc (yL #[yA p.1,yA p.2] 52)).heap.size:=by simp;omega
  have h1c:∀ u∈[yA p.1,yA p.2],u.oneCell'=true:=by intro u hu;simp at hu;rcases hu with rfl | rfl <;> rfl
  have hmx:pre.length+1≤maxLen:=by unfold maxLen;omega
  have N3:=aQO W (yA p.1) (yA p.2) 52;have HH:=yN (yd oG (yd hx (yd fP L9)));have HW:=yN (yd hb (yd j9 hle))
  gi_wp2_with (gi_at_builtin;refine wpListIn_append_own_at _ rfl _ _ 27 rfl (w.heap.size+1) 52 i0 (yF #[yA yj,yA yj]) 2 32 underlying27 hi hz0 hz1 hz2 rfl (by decide) _ _ _ rfl (hrow.alloc _) ⟨W.heap.size,0,yO⟩ 1 1 [yA p.1,yA p.2] rfl rfl N3 h1c hmx (by omega) hZ ?_)
  intro v' wa hown' hgrow _ hat;obtain⟨g,cap,rfl⟩:=ownsRow_succ hown';have hown2:∀ q,v.ownBlock=yP q→w.heap.size+1≤q∧q<W.heap.size∧∃ cur,W.heap[q]?=yP (yL cur 52 (0,0)):=fun q hq=>⟨(hrow.lt q hq).1,(hrow.lt q hq).2,dX hrow hq⟩;have keep:∀ q,q<W.heap.size→v.ownBlock≠yP q→wa.heap[q]?=W.heap[q]?:=fun q hq hne=>by
   rw [hgrow.block q (by simp;omega) (fun e=>hne e.symm)];exact Below.heap_alloc W _ q hq
  have eI:w.heap.size<W.heap.size:=by omega
  have ZK:v.ownBlock≠yP w.heap.size:=fun e=>by have:=(hown2 _ e).1;omega
  have hb2:=(keep _ eI ZK).trans HW.o.1;have hc2:wa.cell? ⟨w.heap.size,0,yO⟩=yP v:=aG hb2 rfl;have hf2:wa.frozen? ⟨w.heap.size,0,yO⟩=false:=aU hb2;have iU:=heap_setCell (o:=0) (v:=yC (yP ⟨g,0,yO⟩) (pre.length+1) cap) hb2;have hga:=(hown'.lt g rfl).1;have EB:=hgrow.size;have ZL:Below w.heap.size W wa:=Below.grown ((yk _ W).alloc (by omega) _) hgrow (by simp;omega) (fun q hq=>by have:=(hown2 q hq).1;omega);have hbl:Below w.heap.size W (wa.setCell ⟨w.heap.size,0,yO⟩ (yC (yP ⟨g,0,yO⟩) (pre.length+1) cap)):=ZL.setCell (by show w.heap.size≤w.heap.size;exact ye _) _;have KV:∀ q,q<W.heap.size→q≠w.heap.size→v.ownBlock≠yP q→(wa.setCell ⟨w.heap.size,0,yO⟩ (yC (yP ⟨g,0,yO⟩) (pre.length+1) cap)).heap[q]?=W.heap[q]?:=fun q hq h1 h2=>by
   rw [yl _ _ _ _ (by simpa using h1)];exact keep q hq h2
  have hLv:Leave X (w.heap.size+1) w.heap.size W (wa.setCell ⟨w.heap.size,0,yO⟩ (yC (yP ⟨g,0,yO⟩) (pre.length+1) cap)):=by
   refine⟨hbl,fun i hi'=>?_,fun q o hq ho kQ=>?_⟩
   ·refine KV i (HH.o.2.2.2 i hi') (fun e=>?_) (fun e=>?_);·rw [e,HH.o.2.2.1] at hi';cases hi'
    rw [HH.o.2.1 i e] at hi';cases hi'
   refine (KV q (yo.1 ho).1 (by omega) (fun e=>?_)).trans ho;obtain⟨_,_,cur,fC⟩:=hown2 q e;rw [ho] at fC;cases fC;cases kQ
  have hGa:BU w X (pre ++ [p]) (wa.setCell ⟨w.heap.size,0,yO⟩ (yC (yP ⟨g,0,yO⟩) (pre.length+1) cap)):=by
   refine⟨⟨_,iU,?_,fun q hq=>?_⟩,HH.o.2.2.1,fun i hi'=>yi (HH.o.2.2.2 i hi') hbl.size⟩
   ·have:=hown'.kept (grownBy_setCell' wa w.heap.size (yC (yP ⟨g,0,yO⟩) (pre.length+1) cap)) (.inr (by simp [Value.ownBlock];omega));rw [yy,lH];exact this
   rcases hat with e | e
   ·exact HH.o.2.1 q (e.symm.trans hq)
   rw [hq] at e;cases e':X q with
   | false=>rfl
   | true=>
    have h8:=HH.o.2.2.2 q e';have h9:q=W.heap.size+1:=Option.some.inj e;omega
  have HL:=yN hLv;have HG:=yN hGa
  gi_wp2
  exact⟨HL.o,HG.o⟩
 case done=>
  rintro D X W hD ⟨⟨v,hb,hrow,hx⟩,fP,L9⟩ oG hK;have hc:W.cell? ⟨w.heap.size,0,yO⟩=yP v:=aG hb rfl;dsimp only
  gi_wp2
  refine⟨by simp,.inl ⟨_,_,rfl,run_takeDeferred hK,?_⟩⟩;refine⟨_,results_tmp rfl _ _ _,v,rfl,dG (hrow.kept (grownBy_putObj' W D (.deferred yO)) (.inr fun e=>?_)) (by omega),?_⟩
  ·obtain⟨cur,hc⟩:=dX hrow e;rw [hc] at hK;cases hK
  exact yn oG ⟨rfl,rfl,rfl,by simp,fun i hi=>World.putObj_heap_other (by omega)⟩
theorem aEQ (w:World) (F:Nat) (eN:Array Value) (xs:List Pr) (zK:xs.length≤100000) (enter:∀ args W,(callFunc F args).run yM W = .ok (.enter F args) W) (hit:ItC 3 w F eN xs) :
  Calls yM 139 #[yG (.func F) #[] eN] w fun e w'=>∃ v,e = .returned v∧w'.ownsRow w.heap.size 52 2 v xs.length (aK xs)∧Kept w w':=by
 have HA:=yN (aSY 4 w F eN xs (by decide) zK enter hit);go_enter func139,ntmps139;go_wp2_with fail;refine (callsIn_wide.1 HA.o).mono ?_;rintro e w' ⟨v,rfl,hv,hb⟩;go_wp2_with fail;all_goals go_ret
 all_goals exact⟨v,rfl,hv,hb⟩
end
end Go.Proofs.YtcldomgdkhenpaaGreat
