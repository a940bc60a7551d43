/- Lemmas. -/
import Derived.Test.YtcldomgdkhenpaaGreatJ01
import Derived.Lib.AppendZerosOnto
import Derived.Lib.Overlaps
import Derived.Laws.Externs
import Derived.Laws.IdiomCopy
import Derived.Shelf.RegionOpenPlain
import Derived.Laws.ResultCell
import Derived.Laws.Rows
set_option linter.unusedVariables false
set_option maxRecDepth 1000000
set_option maxHeartbeats 40000000
open Go.Proofs.Tryz
open Go.Proofs.Tryz renaming prog → yM
open Go.Value renaming string → yA,pointer → yB,slice → yC,bool → yD,int → yE,agg → yF
open Go.IntKind renaming i64 → yH,u32 → yI
open Go.Obj renaming cells → yL
open Option renaming none → yO,some → yP
open Go.Lib renaming hid → yN
open And renaming intro → yd
open Array renaming getElem?_eq_some_iff → yo
open ByteArray renaming empty → yj
open Go.Builtin renaming zeroCells → zm
open Go.IntKind renaming wrap_i64 → zk
open Go.RowKit.Below renaming drew → ym,heap_setCell → yl,refl → yk,trans → yn
open List renaming append_assoc → zf,append_nil → zi,length_append → yy,length_cons → zh,length_drop → zg,length_take → ze,mem_cons → yx,mem_map → zj,setIfInBounds_toArray → yp,set_cons_succ → yv,set_cons_zero → yu
open Nat renaming le_of_eq → yh,le_refl → ye,le_trans → yf,lt_of_lt_of_le → yi
open Go.RowKit
namespace Go.Proofs.YtcldomgdkhenpaaGreat
section
variable {w w':World} {v':Value} {a:Act} {o:Oper}
def fT:List Value→Nat→List Value→List Value
 | l,_,[]=>l
 | l,o,v::r=>fT (l.set o v) (o+1) r
theorem jW:∀ (vs l:List Value) (o:Nat),(fT l o vs).length=l.length
 | [],_,_=>rfl
 | v::r,l,o=>by rw [fT,jW r];simp
theorem aG0:∀ (vs l:List Value) (o j:Nat),o+vs.length≤l.length→(fT l o vs)[j]?=if o≤j∧j<o+vs.length then vs[j-o]? else l[j]?
 | [],l,o,j,h=>by rw [fT,if_neg (by simp <;> omega)]
 | v::r,l,o,j,h=>by
  have hl:o+1+r.length≤l.length:=by simp at h;omega
  rw [fT,aG0 r _ (o+1) j (by simpa using hl)];by_cases c1:o+1≤j∧j<o+1+r.length;·rw [if_pos c1,if_pos (by simp;omega),show j-o=(j-(o+1))+1 by omega];simp
  rw [if_neg c1];by_cases c2:j=o
  ·subst c2;rw [if_pos (by simp),List.getElem?_set_self (by omega)];simp
  rw [if_neg (by simp;omega),List.getElem?_set_ne (by omega)]
theorem qF (vs l:List Value) (o:Nat) (h:o+vs.length≤l.length):fT l o vs=l.take o++(vs++l.drop (o+vs.length)):=by
 apply List.ext_getElem?;intro j;rw [aG0 vs l o j h];by_cases c1:o≤j∧j<o+vs.length;·rw [if_pos c1,List.getElem?_append_right (by rw [ze];omega),ze,Nat.min_eq_left (by omega),List.getElem?_append_left (by omega)]
 rw [if_neg c1];by_cases c2:j<o;·rw [List.getElem?_append_left (by rw [ze];omega),List.getElem?_take,if_pos c2]
 rw [List.getElem?_append_right (by rw [ze];omega),ze,Nat.min_eq_left (by omega),List.getElem?_append_right (by omega),List.getElem?_drop];congr 1;omega
theorem heap_setCell {g o:Nat} {v:Value} {cur:Array Value} {e:TypeId} (h:w.heap[g]?=yP (yL cur e (0,0))) :
  (w.setCell ⟨g,o,yO⟩ v).heap[g]?=yP (yL (cur.setIfInBounds o v) e (0,0)):=by
 simp only [World.setCell,Array.getElem?_modify,if_true,h];rfl
theorem mF {g:Nat} {e:TypeId} : ∀ (vs:List Value) (o:Nat) (w:World) (cur:Array Value),w.heap[g]?=yP (yL cur e (0,0))→
  (w.setCells g o vs).heap[g]?=yP (yL (fT cur.toList o vs).toArray e (0,0))
 | [],o,w,cur,h=>by rw [World.setCells,fT];simpa using h
 | v::r,o,w,cur,h=>by
  rw [World.setCells,fT,mF r (o+1) _ _ (heap_setCell h),Array.toList_setIfInBounds]
theorem eU (g:Nat):∀ (vs:List Value) (o:Nat) (w:World),w.grownBy (w.setCells g o vs) (yP g)
 | [],o,w=>⟨rfl,rfl,rfl,ye _,fun _ _ _=>rfl⟩
 | v::r,o,w=>by
  have h:=eU g r (o+1) (w.setCell ⟨g,o,yO⟩ v);rw [World.setCells];refine⟨h.os,h.tape,h.output,yf (by simp [World.setCell]) h.size,fun k hk hn=>?_⟩;rw [h.block k (by simpa [World.setCell] using hk) hn];exact yl _ _ _ _ (fun e=>hn (by rw [e]))
theorem mS {w1 w2:World} {r:Option Nat} (h:w.grownBy w1 r) (g:w1.grownBy w2 r):w.grownBy w2 r:=
 ⟨g.os.trans h.os,g.tape.trans h.tape,g.output.trans h.output,yf h.size g.size,fun k hk hn=>(g.block k (yi hk h.size) hn).trans (h.block k hk hn)⟩
theorem FX (w:World) (r:Option Nat):w.grownBy w.drew r:=⟨rfl,rfl,rfl,ye _,fun _ _ _=>rfl⟩
theorem P6 (w:World) (r:Option Nat):w.grownBy w r:=⟨rfl,rfl,rfl,ye _,fun _ _ _=>rfl⟩
theorem tQ {P:Program} (w:World) (dT sT ty elem:TypeId) (k b o YQ a7A:Nat) (a:Addr) (YR a7B:Nat) (cs:List Value)
  (hu:P.underlying dT=yP (.slice elem)) (hs:(P.info? elem).map (·.size)=yP k) (hn:cs.length=Nat.min YR YQ*k)
  (DX:∀ j v,cs[j]?=yP v→w.cell? (a.add j)=yP v) (hc:∀ j,j<cs.length→(w.cell? ⟨b,o+j,yO⟩).isSome=true) (hf:∀ j,j<cs.length→w.frozen? ⟨b,o+j,yO⟩=false) (h1:∀ v∈cs,v.oneCell'=true) :
  (Builtin.copy_ #[dT,sT] ty #[yC (yP ⟨b,o,yO⟩) YQ a7A,yC (yP a) YR a7B]).run P w = .ok (goInt (Nat.min YR YQ)) (w.setCells b o cs):=by
 have hl:=run_loadCells_list (P:=P) w a cs DX;have hst:=run_storeCells_cells (P:=P) b o cs 0 w (by simpa using hc) (by simpa using hf) h1;cases hq:P.info? elem with
 | none=>simp [hq] at hs
 | some i=>
  have hi:i.size=k:=by simpa [hq] using hs
  simp [Builtin.copy_,run_underlying hu,Builtin.lenOf,Builtin.firstCells,sizeOf,typeInfo,hq,hi,← hn,hl,hst]
theorem aSA {P:Program} (w:World) {K:Act→World→Prop} {Q:Exit→Act→World→Prop} (d s:Operand) (t t':TypeId)
  (ho:o.op = .call { callee:=.builtin .copy,args:=#[d,s],argTypes:=#[t,t'] }) (v u:Value) (hd:a.eval d=v) (hs:a.eval s=u)
  (hr:(Builtin.copy_ #[t,t'] o.type #[v,u]).run P w = .ok v' w') (h:K (a.put o.dst v') w'):o.wp P a w K Q:=by
 unfold Oper.wp execOp;simp only [ho,resolve,invoke,builtin,Sem.run_bind,Sem.run_pure,Result.andThen_ok,List.map_toArray,List.map_cons,List.map_nil,hd,hs,hr];exact h
theorem FO {P:Program} (w:World) {ops:Array Oper} {rest:List Oper} {Q:Exit→Act→World→Prop} (hgd:o.guard=yO) (d s:Operand) (t t':TypeId)
  (ho:o.op = .call { callee:=.builtin .copy,args:=#[d,s],argTypes:=#[t,t'] }) (v u:Value) (hd:a.eval d=v) (hs:a.eval s=u)
  (hr:(Builtin.copy_ #[t,t'] o.type #[v,u]).run P w = .ok v' w') (h:wpList P ops Q rest (a.put o.dst v') w'):wpList P ops Q (o::rest) a w:=
 wpList_plain hgd fun _ hK=>aSA w d s t t' ho v u hd hs hr (hK _ _ h)
theorem FQ {P:Program} {ops:Array Oper} {K:Act→World→Prop} {Q:Exit→Act→World→Prop} {E:Prop}
  (hg:o.guard=yO) (d x:Operand) (dT sT:TypeId) (hop:o.op=Op.call { callee:=Callee.builtin Builtin.copy,args:=#[d,x],argTypes:=#[dT,sT] })
  (v u:Value) (hd:a.eval d=v) (hx:a.eval x=u) (hr:(Builtin.copy_ #[dT,sT] o.type #[v,u]).run P w = .ok v' w') (hK:K (a.put o.dst v') w') :
  if Region.wanted o (yielded ops a.tmps)=true then Oper.wp P o a w K Q else E:=by
 have hw:Region.wanted o (yielded ops a.tmps)=true:=by simp [Region.wanted,hg]
 rw [if_pos hw];unfold Oper.wp;simp [execOp,hop,resolve,invoke,builtin,hd,hx,hr,Result.andThen];exact hK
end
section
variable {v:Value} {e:TypeId} {cur:Array Value} {g j:Nat} {w:World}
theorem aG (h:w.heap[g]?=yP (yL cur e (0,0))) (hv:cur.toList[j]?=yP v):w.cell? ⟨g,j,yO⟩=yP v:=by
 simp only [World.cell?,h];simpa using hv
theorem oO (h:w.heap[g]?=yP (yL cur e (0,0))) (hj:j<cur.size):(w.cell? ⟨g,j,yO⟩).isSome=true:=by
 simp only [World.cell?,h];simp [hj]
theorem aU (h:w.heap[g]?=yP (yL cur e (0,0))):w.frozen? ⟨g,j,yO⟩=false:=by
 simp [World.frozen?,h]
theorem ch (j:Nat) {cs:Array Value} {t:TypeId} (h:w.heap[g]?=yP (yL cs t)) (hv:cs.toList[j]?=yP v:=by rfl):w.cell? ⟨g,j,yO⟩=yP v:=aG (j:=j) h hv
theorem fh (j:Nat) (h:w.heap[g]?=yP (yL cur e (0,0))):w.frozen? ⟨g,j,yO⟩=false:=aU h
theorem bM (w:World) (o:Obj):(w.alloc o).heap[w.heap.size]?=yP o:=by show (w.heap.push o)[w.heap.size]?=yP o;simp
theorem UY {w':World} {r:Option Nat} (h:w.grownBy w' r) {b:Nat} {o:Obj} (hb:w.heap[b]?=yP o) (hr:yP b≠r):w'.heap[b]?=yP o:=by
 rw [h.block b (yo.1 hb).1 hr];exact hb
theorem aP1 (g n cap i vb:Nat) (cur:Array Value) (ys:List Value) (tA:TypeId) (w:World) (hg:w.heap[g]?=yP (yL cur 52 (0,0)))
  (fC:cur.size=cap*2) (hi:i<n) (hroom:n+1≤cap) (iE:cap≤maxLen) (hy:ys.length=2) (hv:w.heap[vb]?=yP (yL ys.toArray tA (0,0))) (iM:vb≠g) (fD:∀ u∈ys,u.oneCell'=true) (zs:List Value) (hzs:(cur.toList.drop (i*2)).take ((n-i)*2)=zs) (MP:∀ u∈zs,u.oneCell'=true) :
  Calls yM 357 #[yC (yP ⟨g,0,yO⟩) n cap,yE yH i,yC (yP ⟨vb,0,yO⟩) 1 1] w fun e w'=>
   e = .returned (yC (yP ⟨g,0,yO⟩) (n+1) cap)∧w'=(w.drew.setCells g ((i+1)*2) zs).setCells g (i*2) ys:=by
 have KQ:cap≤9223372036854775807:=by unfold maxLen at iE;omega
 have hz2:¬ ((i:Int)=(n:Int)):=by omega
 have EB:w.shape? vb=yP (tA,2):=by simp [World.shape?,hv,hy]
 have eI:w.shape? g=yP (52,cap*2):=by simp [World.shape?,hg,fC]
 have MQ:∀ lb cb,(callFunc 413 #[yC (yP ⟨vb,0,yO⟩) 1 1,yC (yP ⟨g,(i+1)*2,yO⟩) lb cb]).run yM w = .ok (.value (yD false)) w:=fun lb cb=>by
  rw [run_callFunc_extern func413 (by kernel_rfl) (by kernel_rfl) (by kernel_rfl) (e:=Extern.SlicesOverlaps.overlaps #[27,27] #[4]) (by kernel_rfl),
   Lib.run_overlaps_apart w 27 4 52 underlying27 2 Tryz.sizeOf52 ⟨vb,0,yO⟩ ⟨g,(i+1)*2,yO⟩ 1 1 lb cb iM tA 52 2 (cap*2) EB eI (by omega) (aU hv) (aU hv)]
  rfl
 have hsz:(yM.info? 52).map (·.size)=yP 2:=by
  obtain⟨i0,bS,h0,h1,h2⟩:=info_parts yU;rw [bS];simp [h1]
 have hzl:zs.length=(n-i)*2:=by rw [← hzs];simp;omega
 have zM:∀ j v,zs[j]?=yP v→w.cell? ⟨g,i*2+j,yO⟩=yP v:=fun j v hj=>by
  rw [← hzs,List.getElem?_take] at hj
  split at hj
  ·rw [List.getElem?_drop] at hj;exact aG hg hj
  cases hj
 have BN:∀ ty dc sc,(Builtin.copy_ #[27,27] ty #[yC (yP ⟨g,(i+1)*2,yO⟩) (n-i) dc,yC (yP ⟨g,i*2,yO⟩) (n+1-i) sc]).run yM w.drew = .ok (goInt (Nat.min (n+1-i) (n-i))) (w.drew.setCells g ((i+1)*2) zs):=fun ty dc sc=>
  tQ w.drew _ _ ty 52 2 g ((i+1)*2) (n-i) dc ⟨g,i*2,yO⟩ (n+1-i) sc zs underlying27 hsz (by rw [hzl];simp only [Nat.min_def];split <;> omega)
   (fun j v hj=>by rw [Addr.add_lit];exact zM j v hj) (fun j hj=>oO (w:=w.drew) hg (by omega)) (fun j hj=>aU (w:=w.drew) hg) MP
 obtain⟨W1,hW1⟩:∃ W1,W1=w.drew.setCells g ((i+1)*2) zs:=⟨_,rfl⟩;have hg1:W1.heap[g]?=yP (yL (fT cur.toList ((i+1)*2) zs).toArray 52 (0,0)):=by rw [hW1];exact mF _ _ _ _ hg
 have lR:W1.heap[vb]?=yP (yL ys.toArray tA (0,0)):=by rw [hW1];exact UY (eU g _ _ w.drew) hv (by simpa using iM)
 have LN:∀ ty dc,(Builtin.copy_ #[27,27] ty #[yC (yP ⟨g,i*2,yO⟩) (n+1-i) dc,yC (yP ⟨vb,0,yO⟩) 1 1]).run yM W1 = .ok (goInt (Nat.min 1 (n+1-i))) (W1.setCells g (i*2) ys):=fun ty dc=>
  tQ W1 _ _ ty 52 2 g (i*2) (n+1-i) dc ⟨vb,0,yO⟩ 1 1 ys underlying27 hsz (by rw [hy];simp only [Nat.min_def];split <;> omega)
   (fun j v hj=>by rw [Addr.add_lit,Nat.zero_add];exact aG lR (by simpa using hj)) (fun j hj=>oO hg1 (by simp [jW];omega)) (fun j hj=>aU hg1) fD
 rw [← hW1] at BN ⊢;clear EB eI hzs hzl zM MP hg1 lR hW1;have mixed:yM.follows Departure.mixedOrders=true:=by kernel_rfl
 have cR:yH.wrap ((i:Int)+1)=(i:Int)+1:=by rw [zk];omega
 have hb1:(0:Int)≤(i:Int)+1:=by omega
 have dI:(i:Int)≤(n:Int):=by omega
 have G6:(i:Int)+1≤(n:Int)+1:=by omega
 have aKF:i≤n:=by omega
 have xI:((i:Int)+1).toNat=i+1:=by omega
 have hb2:¬ (cap=i+1):=by omega
 have hb3:(i:Int)≤(n:Int)+1:=by omega
 have hb4:¬ (cap=i):=by omega
 go_enter func357,ntmps357;go_wp2_with (simp only [MQ])
 go_region_law_o (refine FQ rfl _ _ 27 27 rfl _ _ (by simp [Act.eval,Act.put]) (by simp [Act.eval,Act.put]) (BN _ _ _) ?_)
 go_wp2_with (at_builtin;refine FO _ rfl _ _ 27 27 rfl _ _ rfl rfl (LN _ _) ?_);go_ret;exact⟨rfl,rfl⟩
theorem aP2 (g n cap i vb:Nat) (xs ys:List Value) (tA:TypeId) (w:World) (gF:xs.length=n*2) (uG:∀ j v,xs[j]?=yP v→w.cell? ⟨g,j,yO⟩=yP v)
  (SF:g<w.heap.size) (hi:i<n) (hroom:cap<n+1) (kQ:n≤cap) (hn:n≤1000000) (hy:ys.length=2) (hv:w.heap[vb]?=yP (yL ys.toArray tA (0,0))) (fD:∀ u∈ys,u.oneCell'=true) (kR:∀ u∈xs,u.oneCell'=true) :
  Calls yM 357 #[yC (yP ⟨g,0,yO⟩) n cap,yE yH i,yC (yP ⟨vb,0,yO⟩) 1 1] w fun e w'=>
   ∃ v',e = .returned v'∧w'.ownsRow w.heap.size 52 2 v' (n+1) (xs.take (i*2)++(ys++xs.drop (i*2)))∧Kept w w':=by
 obtain⟨i0,bS,hz0,hzs,hzb⟩:=info_parts yU;have hsz:(yM.info? 52).map (·.size)=yP 2:=by rw [bS];simp [hzs]
 have hz2:¬ ((i:Int)=(n:Int)):=by omega
 have hz3:(cap:Int)<(n:Int)+1:=by omega
 have hvl:vb<w.heap.size:=(yo.1 hv).1;have hold:(Builtin.firstCells i0.size i (yC (yP ⟨g,0,yO⟩) i cap)).run yM w.drew = .ok (xs.take (i*2)).toArray w.drew:=by
  rw [hzs]
  exact run_firstCells_some w.drew 2 i ⟨g,0,yO⟩ i cap (xs.take (i*2)) (by rw [ze];omega) (fun j v hj=>by
   rw [Addr.add_lit,Nat.zero_add];rw [List.getElem?_take] at hj
   split at hj
   ·exact uG j v hj
   cases hj)
 have cH:(n:Int)+1-(i:Int)=((n+1-i:Nat):Int):=by omega
 have hik:i+(n+1-i)=n+1:=by omega
 have lS:∀ ty,(Builtin.append_ #[27,3] ty #[yC (yP ⟨g,0,yO⟩) i cap,yE yH ((n:Int)+1-(i:Int))]).run yM w =
   .ok (yC (yP ⟨w.heap.size,0,yO⟩) (n+1) (grownCap w (n+1) cap 52)) (w.drew.alloc (yL ((xs.take (i*2)).toArray++zm ((yF #[yA yj,yA yj]):Value).cells (n+1-i)++zm ((yF #[yA yj,yA yj]):Value).cells (grownCap w (n+1) cap 52-(n+1))) 52)):=fun ty=>by
  have h:=Lib.run_append_grow_zeros w 27 3 ty 52 i0 _ .i64 .i64 underlying27 underlying3 bS hz0 (yP ⟨g,0,yO⟩) i cap (xs.take (i*2)) hold (n+1-i) (by omega) (by omega) (by omega) (by omega) (by rw [hzb];omega) (by rw [hzb,hik];exact growslice_fits hroom (by omega));rw [hik] at h;rw [cH];exact h
 obtain⟨G,hG⟩:∃ G,G=grownCap w (n+1) cap 52:=⟨_,rfl⟩;rw [← hG] at lS;have zN:n+1≤G:=by rw [hG];exact grownCap_ge w _ _ _
 have xJ:G≤maxLen:=by rw [hG];exact grownCap_le_maxLen w (n+1) cap _ (by unfold maxLen;omega)
 obtain⟨ROW,qM⟩:∃ ROW:Array Value,ROW=(xs.take (i*2)).toArray++zm ((yF #[yA yj,yA yj]):Value).cells (n+1-i)++zm ((yF #[yA yj,yA yj]):Value).cells (G-(n+1)):=⟨_,rfl⟩;rw [← qM] at lS;have xK:ROW.size=G*2:=by
  rw [qM];simp [zm,Value.cells];omega
 have MR:ROW.toList.take (i*2)=xs.take (i*2):=by
  rw [qM];simp only [Array.toList_append,zf];rw [List.take_append_of_le_length (by simp;omega),List.take_take,Nat.min_self]
 obtain⟨W1,hW1⟩:∃ W1,W1=w.drew.alloc (yL ROW 52):=⟨_,rfl⟩;rw [← hW1] at lS;have sG:W1.heap[w.heap.size]?=yP (yL ROW 52 (0,0)):=by rw [hW1];exact bM w.drew _
 have kS:Kept w W1:=by rw [hW1];exact (yk _ w).drew.alloc (ye _) _
 obtain⟨W2,hW2⟩:∃ W2,W2=W1.setCells w.heap.size (i*2) ys:=⟨_,rfl⟩;have LO:∀ ty dc,(Builtin.copy_ #[27,27] ty #[yC (yP ⟨w.heap.size,i*2,yO⟩) (n+1-i) dc,yC (yP ⟨vb,0,yO⟩) 1 1]).run yM W1 = .ok (goInt (Nat.min 1 (n+1-i))) W2:=fun ty dc=>by
  rw [hW2]
  exact tQ W1 _ _ ty 52 2 w.heap.size (i*2) (n+1-i) dc ⟨vb,0,yO⟩ 1 1 ys underlying27 hsz (by rw [hy];simp only [Nat.min_def];split <;> omega)
   (fun j v hj=>by rw [Addr.add_lit,Nat.zero_add];exact kS.cell (aG hv (by simpa using hj))) (fun j hj=>oO sG (by omega)) (fun j hj=>aU sG) fD
 have fV:W2.heap[w.heap.size]?=yP (yL (fT ROW.toList (i*2) ys).toArray 52 (0,0)):=by rw [hW2];exact mF _ _ _ _ sG
 have hK2:Kept w W2:=by rw [hW2];exact kS.grown (eU _ _ _ _) kS.size (fun k hk=>by cases hk;exact ye _)
 obtain⟨W3,hW3⟩:∃ W3,W3=W2.drew.setCells w.heap.size ((i+1)*2) (xs.drop (i*2)):=⟨_,rfl⟩;have cG:(xs.drop (i*2)).length=(n-i)*2:=by rw [zg];omega
 have LP:∀ ty dc sc,(Builtin.copy_ #[27,27] ty #[yC (yP ⟨w.heap.size,(i+1)*2,yO⟩) (n-i) dc,yC (yP ⟨g,i*2,yO⟩) (n-i) sc]).run yM W2.drew = .ok (goInt (Nat.min (n-i) (n-i))) W3:=fun ty dc sc=>by
  rw [hW3]
  exact tQ W2.drew _ _ ty 52 2 w.heap.size ((i+1)*2) (n-i) dc ⟨g,i*2,yO⟩ (n-i) sc (xs.drop (i*2)) underlying27 hsz (by rw [cG];simp only [Nat.min_def];split <;> omega)
   (fun j v hj=>by rw [Addr.add_lit];exact Kept.cell (ym hK2) (uG _ v (by rwa [List.getElem?_drop] at hj))) (fun j hj=>oO (w:=W2.drew) fV (by simp [jW];omega)) (fun j hj=>aU (w:=W2.drew) fV) (fun u hu=>kR u (List.mem_of_mem_drop hu))
 have fE:Hid (W3.ownsRow w.heap.size 52 2 (yC (yP ⟨w.heap.size,0,yO⟩) (n+1) G) (n+1) (xs.take (i*2)++(ys++xs.drop (i*2)))):=by
  refine yN ⟨by simp [hy,gF];omega,.inr ⟨_,G,(fT (fT ROW.toList (i*2) ys) ((i+1)*2) (xs.drop (i*2))).toArray,rfl,ye _,?_,zN,xJ,by simp [jW,xK],?_⟩⟩
  ·rw [hW3];have:=mF (xs.drop (i*2)) ((i+1)*2) W2.drew _ fV;simpa using this
  have hr:ROW.toList.length=G*2:=by simpa using xK
  have hGk:(n+1)*2≤G*2:=Nat.mul_le_mul_right _ zN;rw [qF _ _ _ (by rw [jW,cG,hr];omega),qF _ _ _ (by rw [hy,hr];omega)];rw [List.toList_toArray,MR,cG,hy];have e1:(xs.take (i*2)++(ys++ROW.toList.drop (i*2+2))).take ((i+1)*2)=xs.take (i*2)++ys:=by
   rw [← zf];exact List.take_left' (by rw [yy,ze,hy,gF];omega)
  rw [e1];rw [← zf (xs.take (i*2)) ys (xs.drop (i*2)),← zf (xs.take (i*2)++ys),List.take_left'];rw [yy,yy,ze,hy,gF,cG];omega
 have hK3:Hid (Kept w W3):=by
  rw [hW3];exact yN (hK2.drew.grown (eU _ _ _ _) hK2.size (fun k hk=>by cases hk;exact ye _))
 clear hW1 hW2 hW3 sG fV kS hK2 qM xK MR hold cH hik hG cG uG hv;have mixed:yM.follows Departure.mixedOrders=true:=by kernel_rfl
 have cR:yH.wrap ((i:Int)+1)=(i:Int)+1:=by rw [zk];omega
 have hb1:(0:Int)≤(i:Int)+1:=by omega
 have xI:((i:Int)+1).toNat=i+1:=by omega
 have aKG:G≤9223372036854775807:=by unfold maxLen at xJ;omega
 have hGi:¬ (G=i):=by omega
 have aKH:¬ (G=i+1):=by omega
 have SG:¬ (cap=i):=by omega
 have dI:i≤n:=by omega
 have hb3:(i:Int)≤(n:Int):=by omega
 have hb4:(i:Int)+1≤(n:Int)+1:=by omega
 go_enter func357,ntmps357
 go_wp2_with (first
  | (at_builtin;refine Lib.wpList_append_run _ rfl _ _ _ _ rfl _ _ rfl rfl _ _ (lS _) ?_)
  | (at_builtin;refine FO _ rfl _ _ 27 27 rfl _ _ rfl rfl (LO _ _) ?_))
 go_region_law_o (refine FQ rfl _ _ 27 27 rfl _ _ (by simp [Act.eval,Act.put]) (by simp [Act.eval,Act.put]) (LP _ _ _) ?_)
 go_wp2;go_ret;exact⟨_,rfl,fE.o,hK3.o⟩
theorem aQG (B n vb:Nat) (v:Value) (xs ys:List Value) (tA:TypeId) (w:World) (h:w.ownsRow B 52 2 v n xs) (hB:B≤w.heap.size)
  (hn:n≤1000000) (hy:ys.length=2) (hv:w.heap[vb]?=yP (yL ys.toArray tA (0,0))) (fD:∀ u∈ys,u.oneCell'=true) :
  Calls yM 357 #[v,yE yH n,yC (yP ⟨vb,0,yO⟩) 1 1] w fun e w'=>
   ∃ v',e = .returned v'∧w'.ownsRow B 52 2 v' (n+1) (xs++ys)∧w.grownBy w' v.ownBlock:=by
 obtain⟨i0,bS,hz0,hzs,hzb⟩:=info_parts yU;obtain⟨a,cap,MS,kQ,iE⟩:∃ a cap,v=yC a n cap∧n≤cap∧cap≤9223372036854775807:=by
  rcases h.2 with ⟨rfl,rfl⟩ | ⟨g,cap,cur,rfl,_,_,h3,h4,_⟩
  ·exact⟨_,_,rfl,ye _,by omega⟩
  exact⟨_,_,rfl,h3,by unfold maxLen at h4;omega⟩
 subst MS;have EC:∀ j u,ys[j]?=yP u→w.cell? ((⟨vb,0,yO⟩:Addr).add j)=yP u:=fun j u hj=>by rw [Addr.add_lit,Nat.zero_add];exact aG hv (by simpa using hj)
 have HY:=yN EC;clear EC hv;by_cases ED:cap=n
 ·subst ED;go_enter func357,ntmps357;go_wp2_with (at_builtin;refine wpList_append_own _ rfl _ _ 27 rfl B 52 i0 (yF #[yA yj,yA yj]) 2 32 underlying27 bS hz0 hzs hzb rfl (by decide) _ _ _ rfl h ⟨vb,0,yO⟩ 1 1 ys rfl (by rw [hy]) HY.o fD (by unfold maxLen;omega) (by omega) hB ?_);intro v' w1 hown hgrow _;go_wp2;go_ret;exact⟨_,rfl,hown,hgrow⟩
 go_enter func357,ntmps357;go_wp2_with (at_builtin;refine wpList_append_own _ rfl _ _ 27 rfl B 52 i0 (yF #[yA yj,yA yj]) 2 32 underlying27 bS hz0 hzs hzb rfl (by decide) _ _ _ rfl h ⟨vb,0,yO⟩ 1 1 ys rfl (by rw [hy]) HY.o fD (by unfold maxLen;omega) (by omega) hB ?_);intro v' w1 hown hgrow _;go_wp2;go_ret;exact⟨_,rfl,hown,hgrow⟩
theorem aG1 (B n i vb:Nat) (v:Value) (xs ys:List Value) (tA:TypeId) (w:World) (h:w.ownsRow B 52 2 v n xs) (hB:B≤w.heap.size) (hi:i≤n)
  (hn:n≤1000000) (hy:ys.length=2) (hv:w.heap[vb]?=yP (yL ys.toArray tA (0,0))) (iM:v.ownBlock≠yP vb) (fD:∀ u∈ys,u.oneCell'=true) (kR:∀ u∈xs,u.oneCell'=true) :
  Calls yM 357 #[v,yE yH i,yC (yP ⟨vb,0,yO⟩) 1 1] w fun e w'=>
   ∃ v',e = .returned v'∧w'.ownsRow B 52 2 v' (n+1) (xs.take (i*2)++(ys++xs.drop (i*2)))∧w.grownBy w' v.ownBlock:=by
 have gF:=h.1;by_cases dI:i=n
 ·subst dI;rw [← gF,List.take_length,List.drop_length,zi];exact aQG B i vb v xs ys tA w h hB hn hy hv fD
 rcases h.2 with ⟨rfl,rfl⟩ | ⟨g,cap,cur,rfl,hbg,hg,h3,h4,h5,h6⟩
 ·omega
 have MT:vb≠g:=fun e=>iM (by simp [Value.ownBlock,e]);by_cases hroom:n+1≤cap
 ·have hz:(cur.toList.drop (i*2)).take ((n-i)*2)=xs.drop (i*2):=by
   rw [← h6,List.drop_take];congr 1;omega
  refine (aP1 g n cap i vb cur ys tA w hg h5 (by omega) hroom h4 hy hv MT fD _ hz (fun u hu=>kR u (List.mem_of_mem_drop hu))).mono ?_;rintro e w' ⟨rfl,rfl⟩;have fW:cur.toList.length=cap*2:=by simpa using h5
  have nW:(n+1)*2≤cap*2:=Nat.mul_le_mul_right _ hroom;have cG:(xs.drop (i*2)).length=(n-i)*2:=by rw [zg];omega
  refine⟨_,rfl,⟨by simp [hy,gF];omega,.inr ⟨g,cap,(fT (fT cur.toList ((i+1)*2) (xs.drop (i*2))) (i*2) ys).toArray,rfl,hbg,?_,hroom,h4,by simp [jW,fW],?_⟩⟩,?_⟩
  ·have:=mF ys (i*2) _ _ (mF (xs.drop (i*2)) ((i+1)*2) w.drew _ hg);simpa using this
  ·rw [List.toList_toArray,qF _ _ _ (by rw [jW,hy,fW];omega),qF _ _ _ (by rw [cG,fW];omega),cG,hy];have e0:(cur.toList.take ((i+1)*2)++(xs.drop (i*2)++cur.toList.drop ((i+1)*2+(n-i)*2))).take (i*2)=xs.take (i*2):=by
    rw [List.take_append_of_le_length (by rw [ze,fW];omega),List.take_take,← h6,List.take_take];congr 1;omega
   have e1:(cur.toList.take ((i+1)*2)++(xs.drop (i*2)++cur.toList.drop ((i+1)*2+(n-i)*2))).drop (i*2+2)=xs.drop (i*2)++cur.toList.drop ((i+1)*2+(n-i)*2):=
    List.drop_left' (by rw [ze,fW];omega)
   rw [e0,e1,show i*2=i*2 by omega];rw [← zf,← zf,← zf,List.take_left'];rw [yy,yy,ze,hy,gF,cG];omega
  exact mS (mS (FX w _) (eU g _ _ w.drew)) (eU g _ _ _)
 refine (aP2 g n cap i vb xs ys tA w gF (fun j u hj=>aG hg (by
  rw [← h6,List.getElem?_take] at hj
  split at hj
  ·exact hj
  cases hj)) (yo.1 hg).1 (by omega) (by omega) h3 hn hy hv fD kR).mono ?_
 rintro e w' ⟨v',rfl,ho,hk⟩;exact⟨v',rfl,by rw [show i*2=i*2 by omega];exact dG ho hB,⟨hk.os,hk.tape,hk.output,hk.size,fun k dJ _=>hk.block k dJ⟩⟩
theorem aP3 (g n cap i vb:Nat) (cur:Array Value) (ys:List Value) (tA:TypeId) (w:World) (hg:w.heap[g]?=yP (yL cur 176 (0,0)))
  (fC:cur.size=cap*1) (hi:i<n) (hroom:n+1≤cap) (iE:cap≤maxLen) (hy:ys.length=1) (hv:w.heap[vb]?=yP (yL ys.toArray tA (0,0))) (iM:vb≠g) (fD:∀ u∈ys,u.oneCell'=true) (zs:List Value) (hzs:(cur.toList.drop (i)).take ((n-i)*1)=zs) (MP:∀ u∈zs,u.oneCell'=true) :
  Calls yM 359 #[yC (yP ⟨g,0,yO⟩) n cap,yE yH i,yC (yP ⟨vb,0,yO⟩) 1 1] w fun e w'=>
   e = .returned (yC (yP ⟨g,0,yO⟩) (n+1) cap)∧w'=(w.drew.setCells g ((i+1)) zs).setCells g (i) ys:=by
 have KQ:cap≤9223372036854775807:=by unfold maxLen at iE;omega
 have hz2:¬ ((i:Int)=(n:Int)):=by omega
 have EB:w.shape? vb=yP (tA,1):=by simp [World.shape?,hv,hy]
 have eI:w.shape? g=yP (176,cap*1):=by simp [World.shape?,hg,fC]
 have MQ:∀ lb cb,(callFunc 415 #[yC (yP ⟨vb,0,yO⟩) 1 1,yC (yP ⟨g,(i+1),yO⟩) lb cb]).run yM w = .ok (.value (yD false)) w:=fun lb cb=>by
  rw [run_callFunc_extern func415 (by kernel_rfl) (by kernel_rfl) (by kernel_rfl) (e:=Extern.SlicesOverlaps.overlaps #[406,406] #[4]) (by kernel_rfl),
   Lib.run_overlaps_apart w 406 4 176 underlying406 1 Tryz.sizeOf176 ⟨vb,0,yO⟩ ⟨g,(i+1),yO⟩ 1 1 lb cb iM tA 176 1 (cap*1) EB eI (by omega) (aU hv) (aU hv)]
  rfl
 have hsz:(yM.info? 176).map (·.size)=yP 1:=by
  obtain⟨i0,bS,h0,h1,h2⟩:=info_parts KP;rw [bS];simp [h1]
 have hzl:zs.length=(n-i)*1:=by rw [← hzs];simp;omega
 have zM:∀ j v,zs[j]?=yP v→w.cell? ⟨g,i+j,yO⟩=yP v:=fun j v hj=>by
  rw [← hzs,List.getElem?_take] at hj
  split at hj
  ·rw [List.getElem?_drop] at hj;exact aG hg hj
  cases hj
 have BN:∀ ty dc sc,(Builtin.copy_ #[406,406] ty #[yC (yP ⟨g,(i+1),yO⟩) (n-i) dc,yC (yP ⟨g,i,yO⟩) (n+1-i) sc]).run yM w.drew = .ok (goInt (Nat.min (n+1-i) (n-i))) (w.drew.setCells g ((i+1)) zs):=fun ty dc sc=>
  tQ w.drew _ _ ty 176 1 g ((i+1)) (n-i) dc ⟨g,i,yO⟩ (n+1-i) sc zs underlying406 hsz (by rw [hzl];simp only [Nat.min_def];split <;> omega)
   (fun j v hj=>by rw [Addr.add_lit];exact zM j v hj) (fun j hj=>oO (w:=w.drew) hg (by omega)) (fun j hj=>aU (w:=w.drew) hg) MP
 obtain⟨W1,hW1⟩:∃ W1,W1=w.drew.setCells g ((i+1)) zs:=⟨_,rfl⟩;have hg1:W1.heap[g]?=yP (yL (fT cur.toList ((i+1)) zs).toArray 176 (0,0)):=by rw [hW1];exact mF _ _ _ _ hg
 have lR:W1.heap[vb]?=yP (yL ys.toArray tA (0,0)):=by rw [hW1];exact UY (eU g _ _ w.drew) hv (by simpa using iM)
 have LN:∀ ty dc,(Builtin.copy_ #[406,406] ty #[yC (yP ⟨g,i,yO⟩) (n+1-i) dc,yC (yP ⟨vb,0,yO⟩) 1 1]).run yM W1 = .ok (goInt (Nat.min 1 (n+1-i))) (W1.setCells g (i) ys):=fun ty dc=>
  tQ W1 _ _ ty 176 1 g (i) (n+1-i) dc ⟨vb,0,yO⟩ 1 1 ys underlying406 hsz (by rw [hy];simp only [Nat.min_def];split <;> omega)
   (fun j v hj=>by rw [Addr.add_lit,Nat.zero_add];exact aG lR (by simpa using hj)) (fun j hj=>oO hg1 (by simp [jW];omega)) (fun j hj=>aU hg1) fD
 rw [← hW1] at BN ⊢;clear EB eI hzs hzl zM MP hg1 lR hW1;have mixed:yM.follows Departure.mixedOrders=true:=by kernel_rfl
 have cR:yH.wrap ((i:Int)+1)=(i:Int)+1:=by rw [zk];omega
 have hb1:(0:Int)≤(i:Int)+1:=by omega
 have dI:(i:Int)≤(n:Int):=by omega
 have G6:(i:Int)+1≤(n:Int)+1:=by omega
 have aKF:i≤n:=by omega
 have xI:((i:Int)+1).toNat=i+1:=by omega
 have hb2:¬ (cap=i+1):=by omega
 have hb3:(i:Int)≤(n:Int)+1:=by omega
 have hb4:¬ (cap=i):=by omega
 go_enter func359,ntmps359;go_wp2_with (simp only [MQ])
 go_region_law_o (refine FQ rfl _ _ 406 406 rfl _ _ (by simp [Act.eval,Act.put]) (by simp [Act.eval,Act.put]) (BN _ _ _) ?_)
 go_wp2_with (at_builtin;refine FO _ rfl _ _ 406 406 rfl _ _ rfl rfl (LN _ _) ?_);go_ret;exact⟨rfl,rfl⟩
theorem aP4 (g n cap i vb:Nat) (xs ys:List Value) (tA:TypeId) (w:World) (gF:xs.length=n*1) (uG:∀ j v,xs[j]?=yP v→w.cell? ⟨g,j,yO⟩=yP v)
  (SF:g<w.heap.size) (hi:i<n) (hroom:cap<n+1) (kQ:n≤cap) (hn:n≤1000000) (hy:ys.length=1) (hv:w.heap[vb]?=yP (yL ys.toArray tA (0,0))) (fD:∀ u∈ys,u.oneCell'=true) (kR:∀ u∈xs,u.oneCell'=true) :
  Calls yM 359 #[yC (yP ⟨g,0,yO⟩) n cap,yE yH i,yC (yP ⟨vb,0,yO⟩) 1 1] w fun e w'=>
   ∃ v',e = .returned v'∧w'.ownsRow w.heap.size 176 1 v' (n+1) (xs.take (i)++(ys++xs.drop (i)))∧Kept w w':=by
 obtain⟨i0,bS,hz0,hzs,hzb⟩:=info_parts KP;have hsz:(yM.info? 176).map (·.size)=yP 1:=by rw [bS];simp [hzs]
 have hz2:¬ ((i:Int)=(n:Int)):=by omega
 have hz3:(cap:Int)<(n:Int)+1:=by omega
 have hvl:vb<w.heap.size:=(yo.1 hv).1;have hold:(Builtin.firstCells i0.size i (yC (yP ⟨g,0,yO⟩) i cap)).run yM w.drew = .ok (xs.take (i)).toArray w.drew:=by
  rw [hzs]
  exact run_firstCells_some w.drew 1 i ⟨g,0,yO⟩ i cap (xs.take (i)) (by rw [ze];omega) (fun j v hj=>by
   rw [Addr.add_lit,Nat.zero_add];rw [List.getElem?_take] at hj
   split at hj
   ·exact uG j v hj
   cases hj)
 have cH:(n:Int)+1-(i:Int)=((n+1-i:Nat):Int):=by omega
 have hik:i+(n+1-i)=n+1:=by omega
 have lS:∀ ty,(Builtin.append_ #[406,3] ty #[yC (yP ⟨g,0,yO⟩) i cap,yE yH ((n:Int)+1-(i:Int))]).run yM w =
   .ok (yC (yP ⟨w.heap.size,0,yO⟩) (n+1) (grownCap w (n+1) cap 176)) (w.drew.alloc (yL ((xs.take (i)).toArray++zm ((yB yO):Value).cells (n+1-i)++zm ((yB yO):Value).cells (grownCap w (n+1) cap 176-(n+1))) 176)):=fun ty=>by
  have h:=Lib.run_append_grow_zeros w 406 3 ty 176 i0 _ .i64 .i64 underlying406 underlying3 bS hz0 (yP ⟨g,0,yO⟩) i cap (xs.take (i)) hold (n+1-i) (by omega) (by omega) (by omega) (by omega) (by rw [hzb];omega) (by rw [hzb,hik];exact growslice_fits hroom (by omega));rw [hik] at h;rw [cH];exact h
 obtain⟨G,hG⟩:∃ G,G=grownCap w (n+1) cap 176:=⟨_,rfl⟩;rw [← hG] at lS;have zN:n+1≤G:=by rw [hG];exact grownCap_ge w _ _ _
 have xJ:G≤maxLen:=by rw [hG];exact grownCap_le_maxLen w (n+1) cap _ (by unfold maxLen;omega)
 obtain⟨ROW,qM⟩:∃ ROW:Array Value,ROW=(xs.take (i)).toArray++zm ((yB yO):Value).cells (n+1-i)++zm ((yB yO):Value).cells (G-(n+1)):=⟨_,rfl⟩;rw [← qM] at lS;have xK:ROW.size=G*1:=by
  rw [qM];simp [zm,Value.cells];omega
 have MR:ROW.toList.take (i)=xs.take (i):=by
  rw [qM];simp only [Array.toList_append,zf];rw [List.take_append_of_le_length (by simp;omega),List.take_take,Nat.min_self]
 obtain⟨W1,hW1⟩:∃ W1,W1=w.drew.alloc (yL ROW 176):=⟨_,rfl⟩;rw [← hW1] at lS;have sG:W1.heap[w.heap.size]?=yP (yL ROW 176 (0,0)):=by rw [hW1];exact bM w.drew _
 have kS:Kept w W1:=by rw [hW1];exact (yk _ w).drew.alloc (ye _) _
 obtain⟨W2,hW2⟩:∃ W2,W2=W1.setCells w.heap.size (i) ys:=⟨_,rfl⟩;have LO:∀ ty dc,(Builtin.copy_ #[406,406] ty #[yC (yP ⟨w.heap.size,i,yO⟩) (n+1-i) dc,yC (yP ⟨vb,0,yO⟩) 1 1]).run yM W1 = .ok (goInt (Nat.min 1 (n+1-i))) W2:=fun ty dc=>by
  rw [hW2]
  exact tQ W1 _ _ ty 176 1 w.heap.size (i) (n+1-i) dc ⟨vb,0,yO⟩ 1 1 ys underlying406 hsz (by rw [hy];simp only [Nat.min_def];split <;> omega)
   (fun j v hj=>by rw [Addr.add_lit,Nat.zero_add];exact kS.cell (aG hv (by simpa using hj))) (fun j hj=>oO sG (by omega)) (fun j hj=>aU sG) fD
 have fV:W2.heap[w.heap.size]?=yP (yL (fT ROW.toList (i) ys).toArray 176 (0,0)):=by rw [hW2];exact mF _ _ _ _ sG
 have hK2:Kept w W2:=by rw [hW2];exact kS.grown (eU _ _ _ _) kS.size (fun k hk=>by cases hk;exact ye _)
 obtain⟨W3,hW3⟩:∃ W3,W3=W2.drew.setCells w.heap.size ((i+1)) (xs.drop (i)):=⟨_,rfl⟩;have cG:(xs.drop (i)).length=(n-i)*1:=by rw [zg];omega
 have LP:∀ ty dc sc,(Builtin.copy_ #[406,406] ty #[yC (yP ⟨w.heap.size,(i+1),yO⟩) (n-i) dc,yC (yP ⟨g,i,yO⟩) (n-i) sc]).run yM W2.drew = .ok (goInt (Nat.min (n-i) (n-i))) W3:=fun ty dc sc=>by
  rw [hW3]
  exact tQ W2.drew _ _ ty 176 1 w.heap.size ((i+1)) (n-i) dc ⟨g,i,yO⟩ (n-i) sc (xs.drop (i)) underlying406 hsz (by rw [cG];simp only [Nat.min_def];split <;> omega)
   (fun j v hj=>by rw [Addr.add_lit];exact Kept.cell (ym hK2) (uG _ v (by rwa [List.getElem?_drop] at hj))) (fun j hj=>oO (w:=W2.drew) fV (by simp [jW];omega)) (fun j hj=>aU (w:=W2.drew) fV) (fun u hu=>kR u (List.mem_of_mem_drop hu))
 have fE:Hid (W3.ownsRow w.heap.size 176 1 (yC (yP ⟨w.heap.size,0,yO⟩) (n+1) G) (n+1) (xs.take (i)++(ys++xs.drop (i)))):=by
  refine yN ⟨by simp [hy,gF];omega,.inr ⟨_,G,(fT (fT ROW.toList (i) ys) ((i+1)) (xs.drop (i))).toArray,rfl,ye _,?_,zN,xJ,by simp [jW,xK],?_⟩⟩
  ·rw [hW3];have:=mF (xs.drop (i)) ((i+1)) W2.drew _ fV;simpa using this
  have hr:ROW.toList.length=G*1:=by simpa using xK
  have hGk:(n+1)*1≤G*1:=Nat.mul_le_mul_right _ zN;rw [qF _ _ _ (by rw [jW,cG,hr];omega),qF _ _ _ (by rw [hy,hr];omega)];rw [List.toList_toArray,MR,cG,hy];have e1:(xs.take (i)++(ys++ROW.toList.drop (i+1))).take ((i+1))=xs.take (i)++ys:=by
   rw [← zf];exact List.take_left' (by rw [yy,ze,hy,gF];omega)
  rw [e1];rw [← zf (xs.take (i)) ys (xs.drop (i)),← zf (xs.take (i)++ys),List.take_left'];rw [yy,yy,ze,hy,gF,cG];omega
 have hK3:Hid (Kept w W3):=by
  rw [hW3];exact yN (hK2.drew.grown (eU _ _ _ _) hK2.size (fun k hk=>by cases hk;exact ye _))
 clear hW1 hW2 hW3 sG fV kS hK2 qM xK MR hold cH hik hG cG uG hv;have mixed:yM.follows Departure.mixedOrders=true:=by kernel_rfl
 have cR:yH.wrap ((i:Int)+1)=(i:Int)+1:=by rw [zk];omega
 have hb1:(0:Int)≤(i:Int)+1:=by omega
 have xI:((i:Int)+1).toNat=i+1:=by omega
 have aKG:G≤9223372036854775807:=by unfold maxLen at xJ;omega
 have hGi:¬ (G=i):=by omega
 have aKH:¬ (G=i+1):=by omega
 have SG:¬ (cap=i):=by omega
 have dI:i≤n:=by omega
 have hb3:(i:Int)≤(n:Int):=by omega
 have hb4:(i:Int)+1≤(n:Int)+1:=by omega
 go_enter func359,ntmps359
 go_wp2_with (first
  | (at_builtin;refine Lib.wpList_append_run _ rfl _ _ _ _ rfl _ _ rfl rfl _ _ (lS _) ?_)
  | (at_builtin;refine FO _ rfl _ _ 406 406 rfl _ _ rfl rfl (LO _ _) ?_))
 go_region_law_o (refine FQ rfl _ _ 406 406 rfl _ _ (by simp [Act.eval,Act.put]) (by simp [Act.eval,Act.put]) (LP _ _ _) ?_)
 go_wp2;go_ret;exact⟨_,rfl,fE.o,hK3.o⟩
theorem aQH (B n vb:Nat) (v:Value) (xs ys:List Value) (tA:TypeId) (w:World) (h:w.ownsRow B 176 1 v n xs) (hB:B≤w.heap.size)
  (hn:n≤1000000) (hy:ys.length=1) (hv:w.heap[vb]?=yP (yL ys.toArray tA (0,0))) (fD:∀ u∈ys,u.oneCell'=true) :
  Calls yM 359 #[v,yE yH n,yC (yP ⟨vb,0,yO⟩) 1 1] w fun e w'=>
   ∃ v',e = .returned v'∧w'.ownsRow B 176 1 v' (n+1) (xs++ys)∧w.grownBy w' v.ownBlock:=by
 obtain⟨i0,bS,hz0,hzs,hzb⟩:=info_parts KP;obtain⟨a,cap,MS,kQ,iE⟩:∃ a cap,v=yC a n cap∧n≤cap∧cap≤9223372036854775807:=by
  rcases h.2 with ⟨rfl,rfl⟩ | ⟨g,cap,cur,rfl,_,_,h3,h4,_⟩
  ·exact⟨_,_,rfl,ye _,by omega⟩
  exact⟨_,_,rfl,h3,by unfold maxLen at h4;omega⟩
 subst MS;have EC:∀ j u,ys[j]?=yP u→w.cell? ((⟨vb,0,yO⟩:Addr).add j)=yP u:=fun j u hj=>by rw [Addr.add_lit,Nat.zero_add];exact aG hv (by simpa using hj)
 have HY:=yN EC;clear EC hv;by_cases ED:cap=n
 ·subst ED;go_enter func359,ntmps359;go_wp2_with (at_builtin;refine wpList_append_own _ rfl _ _ 406 rfl B 176 i0 (yB yO) 1 8 underlying406 bS hz0 hzs hzb rfl (by decide) _ _ _ rfl h ⟨vb,0,yO⟩ 1 1 ys rfl (by rw [hy]) HY.o fD (by unfold maxLen;omega) (by omega) hB ?_);intro v' w1 hown hgrow _;go_wp2;go_ret;exact⟨_,rfl,hown,hgrow⟩
 go_enter func359,ntmps359;go_wp2_with (at_builtin;refine wpList_append_own _ rfl _ _ 406 rfl B 176 i0 (yB yO) 1 8 underlying406 bS hz0 hzs hzb rfl (by decide) _ _ _ rfl h ⟨vb,0,yO⟩ 1 1 ys rfl (by rw [hy]) HY.o fD (by unfold maxLen;omega) (by omega) hB ?_);intro v' w1 hown hgrow _;go_wp2;go_ret;exact⟨_,rfl,hown,hgrow⟩
theorem aG2 (B n i vb:Nat) (v:Value) (xs ys:List Value) (tA:TypeId) (w:World) (h:w.ownsRow B 176 1 v n xs) (hB:B≤w.heap.size) (hi:i≤n)
  (hn:n≤1000000) (hy:ys.length=1) (hv:w.heap[vb]?=yP (yL ys.toArray tA (0,0))) (iM:v.ownBlock≠yP vb) (fD:∀ u∈ys,u.oneCell'=true) (kR:∀ u∈xs,u.oneCell'=true) :
  Calls yM 359 #[v,yE yH i,yC (yP ⟨vb,0,yO⟩) 1 1] w fun e w'=>
   ∃ v',e = .returned v'∧w'.ownsRow B 176 1 v' (n+1) (xs.take (i*1)++(ys++xs.drop (i*1)))∧w.grownBy w' v.ownBlock:=by
 have gF:=h.1;by_cases dI:i=n
 ·subst dI;rw [← gF,List.take_length,List.drop_length,zi];exact aQH B i vb v xs ys tA w h hB hn hy hv fD
 rcases h.2 with ⟨rfl,rfl⟩ | ⟨g,cap,cur,rfl,hbg,hg,h3,h4,h5,h6⟩
 ·omega
 have MT:vb≠g:=fun e=>iM (by simp [Value.ownBlock,e]);by_cases hroom:n+1≤cap
 ·have hz:(cur.toList.drop (i)).take ((n-i)*1)=xs.drop (i):=by
   rw [← h6,List.drop_take];congr 1;omega
  refine (aP3 g n cap i vb cur ys tA w hg h5 (by omega) hroom h4 hy hv MT fD _ hz (fun u hu=>kR u (List.mem_of_mem_drop hu))).mono ?_;rintro e w' ⟨rfl,rfl⟩;have fW:cur.toList.length=cap*1:=by simpa using h5
  have nW:(n+1)*1≤cap*1:=Nat.mul_le_mul_right _ hroom;have cG:(xs.drop (i)).length=(n-i)*1:=by rw [zg];omega
  refine⟨_,rfl,⟨by simp [hy,gF];omega,.inr ⟨g,cap,(fT (fT cur.toList ((i+1)) (xs.drop (i))) (i) ys).toArray,rfl,hbg,?_,hroom,h4,by simp [jW,fW],?_⟩⟩,?_⟩
  ·have:=mF ys (i) _ _ (mF (xs.drop (i)) ((i+1)) w.drew _ hg);simpa using this
  ·rw [List.toList_toArray,qF _ _ _ (by rw [jW,hy,fW];omega),qF _ _ _ (by rw [cG,fW];omega),cG,hy];have e0:(cur.toList.take ((i+1))++(xs.drop (i)++cur.toList.drop ((i+1)+(n-i)*1))).take (i)=xs.take (i):=by
    rw [List.take_append_of_le_length (by rw [ze,fW];omega),List.take_take,← h6,List.take_take];congr 1;omega
   have e1:(cur.toList.take ((i+1))++(xs.drop (i)++cur.toList.drop ((i+1)+(n-i)*1))).drop (i+1)=xs.drop (i)++cur.toList.drop ((i+1)+(n-i)*1):=
    List.drop_left' (by rw [ze,fW];omega)
   rw [e0,e1,show i*1=i by omega];rw [← zf,← zf,← zf,List.take_left'];rw [yy,yy,ze,hy,gF,cG];omega
  exact mS (mS (FX w _) (eU g _ _ w.drew)) (eU g _ _ _)
 refine (aP4 g n cap i vb xs ys tA w gF (fun j u hj=>aG hg (by
  rw [← h6,List.getElem?_take] at hj
  split at hj
  ·exact hj
  cases hj)) (yo.1 hg).1 (by omega) (by omega) h3 hn hy hv fD kR).mono ?_
 rintro e w' ⟨v',rfl,ho,hk⟩;exact⟨v',rfl,by rw [show i*1=i by omega];exact dG ho hB,⟨hk.os,hk.tape,hk.output,hk.size,fun k dJ _=>hk.block k dJ⟩⟩
theorem aP5 (g n cap i vb:Nat) (cur:Array Value) (ys:List Value) (tA:TypeId) (w:World) (hg:w.heap[g]?=yP (yL cur 177 (0,0)))
  (fC:cur.size=cap*1) (hi:i<n) (hroom:n+1≤cap) (iE:cap≤maxLen) (hy:ys.length=1) (hv:w.heap[vb]?=yP (yL ys.toArray tA (0,0))) (iM:vb≠g) (fD:∀ u∈ys,u.oneCell'=true) (zs:List Value) (hzs:(cur.toList.drop (i)).take ((n-i)*1)=zs) (MP:∀ u∈zs,u.oneCell'=true) :
  Calls yM 289 #[yC (yP ⟨g,0,yO⟩) n cap,yE yH i,yC (yP ⟨vb,0,yO⟩) 1 1] w fun e w'=>
   e = .returned (yC (yP ⟨g,0,yO⟩) (n+1) cap)∧w'=(w.drew.setCells g ((i+1)) zs).setCells g (i) ys:=by
 have KQ:cap≤9223372036854775807:=by unfold maxLen at iE;omega
 have hz2:¬ ((i:Int)=(n:Int)):=by omega
 have EB:w.shape? vb=yP (tA,1):=by simp [World.shape?,hv,hy]
 have eI:w.shape? g=yP (177,cap*1):=by simp [World.shape?,hg,fC]
 have MQ:∀ lb cb,(callFunc 347 #[yC (yP ⟨vb,0,yO⟩) 1 1,yC (yP ⟨g,(i+1),yO⟩) lb cb]).run yM w = .ok (.value (yD false)) w:=fun lb cb=>by
  rw [run_callFunc_extern func347 (by kernel_rfl) (by kernel_rfl) (by kernel_rfl) (e:=Extern.SlicesOverlaps.overlaps #[343,343] #[4]) (by kernel_rfl),
   Lib.run_overlaps_apart w 343 4 177 underlying343 1 Tryz.sizeOf177 ⟨vb,0,yO⟩ ⟨g,(i+1),yO⟩ 1 1 lb cb iM tA 177 1 (cap*1) EB eI (by omega) (aU hv) (aU hv)]
  rfl
 have hsz:(yM.info? 177).map (·.size)=yP 1:=by
  obtain⟨i0,bS,h0,h1,h2⟩:=info_parts DM;rw [bS];simp [h1]
 have hzl:zs.length=(n-i)*1:=by rw [← hzs];simp;omega
 have zM:∀ j v,zs[j]?=yP v→w.cell? ⟨g,i+j,yO⟩=yP v:=fun j v hj=>by
  rw [← hzs,List.getElem?_take] at hj
  split at hj
  ·rw [List.getElem?_drop] at hj;exact aG hg hj
  cases hj
 have BN:∀ ty dc sc,(Builtin.copy_ #[343,343] ty #[yC (yP ⟨g,(i+1),yO⟩) (n-i) dc,yC (yP ⟨g,i,yO⟩) (n+1-i) sc]).run yM w.drew = .ok (goInt (Nat.min (n+1-i) (n-i))) (w.drew.setCells g ((i+1)) zs):=fun ty dc sc=>
  tQ w.drew _ _ ty 177 1 g ((i+1)) (n-i) dc ⟨g,i,yO⟩ (n+1-i) sc zs underlying343 hsz (by rw [hzl];simp only [Nat.min_def];split <;> omega)
   (fun j v hj=>by rw [Addr.add_lit];exact zM j v hj) (fun j hj=>oO (w:=w.drew) hg (by omega)) (fun j hj=>aU (w:=w.drew) hg) MP
 obtain⟨W1,hW1⟩:∃ W1,W1=w.drew.setCells g ((i+1)) zs:=⟨_,rfl⟩;have hg1:W1.heap[g]?=yP (yL (fT cur.toList ((i+1)) zs).toArray 177 (0,0)):=by rw [hW1];exact mF _ _ _ _ hg
 have lR:W1.heap[vb]?=yP (yL ys.toArray tA (0,0)):=by rw [hW1];exact UY (eU g _ _ w.drew) hv (by simpa using iM)
 have LN:∀ ty dc,(Builtin.copy_ #[343,343] ty #[yC (yP ⟨g,i,yO⟩) (n+1-i) dc,yC (yP ⟨vb,0,yO⟩) 1 1]).run yM W1 = .ok (goInt (Nat.min 1 (n+1-i))) (W1.setCells g (i) ys):=fun ty dc=>
  tQ W1 _ _ ty 177 1 g (i) (n+1-i) dc ⟨vb,0,yO⟩ 1 1 ys underlying343 hsz (by rw [hy];simp only [Nat.min_def];split <;> omega)
   (fun j v hj=>by rw [Addr.add_lit,Nat.zero_add];exact aG lR (by simpa using hj)) (fun j hj=>oO hg1 (by simp [jW];omega)) (fun j hj=>aU hg1) fD
 rw [← hW1] at BN ⊢;clear EB eI hzs hzl zM MP hg1 lR hW1;have mixed:yM.follows Departure.mixedOrders=true:=by kernel_rfl
 have cR:yH.wrap ((i:Int)+1)=(i:Int)+1:=by rw [zk];omega
 have hb1:(0:Int)≤(i:Int)+1:=by omega
 have dI:(i:Int)≤(n:Int):=by omega
 have G6:(i:Int)+1≤(n:Int)+1:=by omega
 have aKF:i≤n:=by omega
 have xI:((i:Int)+1).toNat=i+1:=by omega
 have hb2:¬ (cap=i+1):=by omega
 have hb3:(i:Int)≤(n:Int)+1:=by omega
 have hb4:¬ (cap=i):=by omega
 go_enter func289,ntmps289;go_wp2_with (simp only [MQ])
 go_region_law_o (refine FQ rfl _ _ 343 343 rfl _ _ (by simp [Act.eval,Act.put]) (by simp [Act.eval,Act.put]) (BN _ _ _) ?_)
 go_wp2_with (at_builtin;refine FO _ rfl _ _ 343 343 rfl _ _ rfl rfl (LN _ _) ?_);go_ret;exact⟨rfl,rfl⟩
theorem aP6 (g n cap i vb:Nat) (xs ys:List Value) (tA:TypeId) (w:World) (gF:xs.length=n*1) (uG:∀ j v,xs[j]?=yP v→w.cell? ⟨g,j,yO⟩=yP v)
  (SF:g<w.heap.size) (hi:i<n) (hroom:cap<n+1) (kQ:n≤cap) (hn:n≤1000000) (hy:ys.length=1) (hv:w.heap[vb]?=yP (yL ys.toArray tA (0,0))) (fD:∀ u∈ys,u.oneCell'=true) (kR:∀ u∈xs,u.oneCell'=true) :
  Calls yM 289 #[yC (yP ⟨g,0,yO⟩) n cap,yE yH i,yC (yP ⟨vb,0,yO⟩) 1 1] w fun e w'=>
   ∃ v',e = .returned v'∧w'.ownsRow w.heap.size 177 1 v' (n+1) (xs.take (i)++(ys++xs.drop (i)))∧Kept w w':=by
 obtain⟨i0,bS,hz0,hzs,hzb⟩:=info_parts DM;have hsz:(yM.info? 177).map (·.size)=yP 1:=by rw [bS];simp [hzs]
 have hz2:¬ ((i:Int)=(n:Int)):=by omega
 have hz3:(cap:Int)<(n:Int)+1:=by omega
 have hvl:vb<w.heap.size:=(yo.1 hv).1;have hold:(Builtin.firstCells i0.size i (yC (yP ⟨g,0,yO⟩) i cap)).run yM w.drew = .ok (xs.take (i)).toArray w.drew:=by
  rw [hzs]
  exact run_firstCells_some w.drew 1 i ⟨g,0,yO⟩ i cap (xs.take (i)) (by rw [ze];omega) (fun j v hj=>by
   rw [Addr.add_lit,Nat.zero_add];rw [List.getElem?_take] at hj
   split at hj
   ·exact uG j v hj
   cases hj)
 have cH:(n:Int)+1-(i:Int)=((n+1-i:Nat):Int):=by omega
 have hik:i+(n+1-i)=n+1:=by omega
 have lS:∀ ty,(Builtin.append_ #[343,3] ty #[yC (yP ⟨g,0,yO⟩) i cap,yE yH ((n:Int)+1-(i:Int))]).run yM w =
   .ok (yC (yP ⟨w.heap.size,0,yO⟩) (n+1) (grownCap w (n+1) cap 177)) (w.drew.alloc (yL ((xs.take (i)).toArray++zm ((yB yO):Value).cells (n+1-i)++zm ((yB yO):Value).cells (grownCap w (n+1) cap 177-(n+1))) 177)):=fun ty=>by
  have h:=Lib.run_append_grow_zeros w 343 3 ty 177 i0 _ .i64 .i64 underlying343 underlying3 bS hz0 (yP ⟨g,0,yO⟩) i cap (xs.take (i)) hold (n+1-i) (by omega) (by omega) (by omega) (by omega) (by rw [hzb];omega) (by rw [hzb,hik];exact growslice_fits hroom (by omega));rw [hik] at h;rw [cH];exact h
 obtain⟨G,hG⟩:∃ G,G=grownCap w (n+1) cap 177:=⟨_,rfl⟩;rw [← hG] at lS;have zN:n+1≤G:=by rw [hG];exact grownCap_ge w _ _ _
 have xJ:G≤maxLen:=by rw [hG];exact grownCap_le_maxLen w (n+1) cap _ (by unfold maxLen;omega)
 obtain⟨ROW,qM⟩:∃ ROW:Array Value,ROW=(xs.take (i)).toArray++zm ((yB yO):Value).cells (n+1-i)++zm ((yB yO):Value).cells (G-(n+1)):=⟨_,rfl⟩;rw [← qM] at lS;have xK:ROW.size=G*1:=by
  rw [qM];simp [zm,Value.cells];omega
 have MR:ROW.toList.take (i)=xs.take (i):=by
  rw [qM];simp only [Array.toList_append,zf];rw [List.take_append_of_le_length (by simp;omega),List.take_take,Nat.min_self]
 obtain⟨W1,hW1⟩:∃ W1,W1=w.drew.alloc (yL ROW 177):=⟨_,rfl⟩;rw [← hW1] at lS;have sG:W1.heap[w.heap.size]?=yP (yL ROW 177 (0,0)):=by rw [hW1];exact bM w.drew _
 have kS:Kept w W1:=by rw [hW1];exact (yk _ w).drew.alloc (ye _) _
 obtain⟨W2,hW2⟩:∃ W2,W2=W1.setCells w.heap.size (i) ys:=⟨_,rfl⟩;have LO:∀ ty dc,(Builtin.copy_ #[343,343] ty #[yC (yP ⟨w.heap.size,i,yO⟩) (n+1-i) dc,yC (yP ⟨vb,0,yO⟩) 1 1]).run yM W1 = .ok (goInt (Nat.min 1 (n+1-i))) W2:=fun ty dc=>by
  rw [hW2]
  exact tQ W1 _ _ ty 177 1 w.heap.size (i) (n+1-i) dc ⟨vb,0,yO⟩ 1 1 ys underlying343 hsz (by rw [hy];simp only [Nat.min_def];split <;> omega)
   (fun j v hj=>by rw [Addr.add_lit,Nat.zero_add];exact kS.cell (aG hv (by simpa using hj))) (fun j hj=>oO sG (by omega)) (fun j hj=>aU sG) fD
 have fV:W2.heap[w.heap.size]?=yP (yL (fT ROW.toList (i) ys).toArray 177 (0,0)):=by rw [hW2];exact mF _ _ _ _ sG
 have hK2:Kept w W2:=by rw [hW2];exact kS.grown (eU _ _ _ _) kS.size (fun k hk=>by cases hk;exact ye _)
 obtain⟨W3,hW3⟩:∃ W3,W3=W2.drew.setCells w.heap.size ((i+1)) (xs.drop (i)):=⟨_,rfl⟩;have cG:(xs.drop (i)).length=(n-i)*1:=by rw [zg];omega
 have LP:∀ ty dc sc,(Builtin.copy_ #[343,343] ty #[yC (yP ⟨w.heap.size,(i+1),yO⟩) (n-i) dc,yC (yP ⟨g,i,yO⟩) (n-i) sc]).run yM W2.drew = .ok (goInt (Nat.min (n-i) (n-i))) W3:=fun ty dc sc=>by
  rw [hW3]
  exact tQ W2.drew _ _ ty 177 1 w.heap.size ((i+1)) (n-i) dc ⟨g,i,yO⟩ (n-i) sc (xs.drop (i)) underlying343 hsz (by rw [cG];simp only [Nat.min_def];split <;> omega)
   (fun j v hj=>by rw [Addr.add_lit];exact Kept.cell (ym hK2) (uG _ v (by rwa [List.getElem?_drop] at hj))) (fun j hj=>oO (w:=W2.drew) fV (by simp [jW];omega)) (fun j hj=>aU (w:=W2.drew) fV) (fun u hu=>kR u (List.mem_of_mem_drop hu))
 have fE:Hid (W3.ownsRow w.heap.size 177 1 (yC (yP ⟨w.heap.size,0,yO⟩) (n+1) G) (n+1) (xs.take (i)++(ys++xs.drop (i)))):=by
  refine yN ⟨by simp [hy,gF];omega,.inr ⟨_,G,(fT (fT ROW.toList (i) ys) ((i+1)) (xs.drop (i))).toArray,rfl,ye _,?_,zN,xJ,by simp [jW,xK],?_⟩⟩
  ·rw [hW3];have:=mF (xs.drop (i)) ((i+1)) W2.drew _ fV;simpa using this
  have hr:ROW.toList.length=G*1:=by simpa using xK
  have hGk:(n+1)*1≤G*1:=Nat.mul_le_mul_right _ zN;rw [qF _ _ _ (by rw [jW,cG,hr];omega),qF _ _ _ (by rw [hy,hr];omega)];rw [List.toList_toArray,MR,cG,hy];have e1:(xs.take (i)++(ys++ROW.toList.drop (i+1))).take ((i+1))=xs.take (i)++ys:=by
   rw [← zf];exact List.take_left' (by rw [yy,ze,hy,gF];omega)
  rw [e1];rw [← zf (xs.take (i)) ys (xs.drop (i)),← zf (xs.take (i)++ys),List.take_left'];rw [yy,yy,ze,hy,gF,cG];omega
 have hK3:Hid (Kept w W3):=by
  rw [hW3];exact yN (hK2.drew.grown (eU _ _ _ _) hK2.size (fun k hk=>by cases hk;exact ye _))
 clear hW1 hW2 hW3 sG fV kS hK2 qM xK MR hold cH hik hG cG uG hv;have mixed:yM.follows Departure.mixedOrders=true:=by kernel_rfl
 have cR:yH.wrap ((i:Int)+1)=(i:Int)+1:=by rw [zk];omega
 have hb1:(0:Int)≤(i:Int)+1:=by omega
 have xI:((i:Int)+1).toNat=i+1:=by omega
 have aKG:G≤9223372036854775807:=by unfold maxLen at xJ;omega
 have hGi:¬ (G=i):=by omega
 have aKH:¬ (G=i+1):=by omega
 have SG:¬ (cap=i):=by omega
 have dI:i≤n:=by omega
 have hb3:(i:Int)≤(n:Int):=by omega
 have hb4:(i:Int)+1≤(n:Int)+1:=by omega
 go_enter func289,ntmps289
 go_wp2_with (first
  | (at_builtin;refine Lib.wpList_append_run _ rfl _ _ _ _ rfl _ _ rfl rfl _ _ (lS _) ?_)
  | (at_builtin;refine FO _ rfl _ _ 343 343 rfl _ _ rfl rfl (LO _ _) ?_))
 go_region_law_o (refine FQ rfl _ _ 343 343 rfl _ _ (by simp [Act.eval,Act.put]) (by simp [Act.eval,Act.put]) (LP _ _ _) ?_)
 go_wp2;go_ret;exact⟨_,rfl,fE.o,hK3.o⟩
theorem aQI (B n vb:Nat) (v:Value) (xs ys:List Value) (tA:TypeId) (w:World) (h:w.ownsRow B 177 1 v n xs) (hB:B≤w.heap.size)
  (hn:n≤1000000) (hy:ys.length=1) (hv:w.heap[vb]?=yP (yL ys.toArray tA (0,0))) (fD:∀ u∈ys,u.oneCell'=true) :
  Calls yM 289 #[v,yE yH n,yC (yP ⟨vb,0,yO⟩) 1 1] w fun e w'=>
   ∃ v',e = .returned v'∧w'.ownsRow B 177 1 v' (n+1) (xs++ys)∧w.grownBy w' v.ownBlock:=by
 obtain⟨i0,bS,hz0,hzs,hzb⟩:=info_parts DM;obtain⟨a,cap,MS,kQ,iE⟩:∃ a cap,v=yC a n cap∧n≤cap∧cap≤9223372036854775807:=by
  rcases h.2 with ⟨rfl,rfl⟩ | ⟨g,cap,cur,rfl,_,_,h3,h4,_⟩
  ·exact⟨_,_,rfl,ye _,by omega⟩
  exact⟨_,_,rfl,h3,by unfold maxLen at h4;omega⟩
 subst MS;have EC:∀ j u,ys[j]?=yP u→w.cell? ((⟨vb,0,yO⟩:Addr).add j)=yP u:=fun j u hj=>by rw [Addr.add_lit,Nat.zero_add];exact aG hv (by simpa using hj)
 have HY:=yN EC;clear EC hv;by_cases ED:cap=n
 ·subst ED;go_enter func289,ntmps289;go_wp2_with (at_builtin;refine wpList_append_own _ rfl _ _ 343 rfl B 177 i0 (yB yO) 1 8 underlying343 bS hz0 hzs hzb rfl (by decide) _ _ _ rfl h ⟨vb,0,yO⟩ 1 1 ys rfl (by rw [hy]) HY.o fD (by unfold maxLen;omega) (by omega) hB ?_);intro v' w1 hown hgrow _;go_wp2;go_ret;exact⟨_,rfl,hown,hgrow⟩
 go_enter func289,ntmps289;go_wp2_with (at_builtin;refine wpList_append_own _ rfl _ _ 343 rfl B 177 i0 (yB yO) 1 8 underlying343 bS hz0 hzs hzb rfl (by decide) _ _ _ rfl h ⟨vb,0,yO⟩ 1 1 ys rfl (by rw [hy]) HY.o fD (by unfold maxLen;omega) (by omega) hB ?_);intro v' w1 hown hgrow _;go_wp2;go_ret;exact⟨_,rfl,hown,hgrow⟩
theorem aXR (B n i vb:Nat) (v:Value) (xs ys:List Value) (tA:TypeId) (w:World) (h:w.ownsRow B 177 1 v n xs) (hB:B≤w.heap.size) (hi:i≤n)
  (hn:n≤1000000) (hy:ys.length=1) (hv:w.heap[vb]?=yP (yL ys.toArray tA (0,0))) (iM:v.ownBlock≠yP vb) (fD:∀ u∈ys,u.oneCell'=true) (kR:∀ u∈xs,u.oneCell'=true) :
  Calls yM 289 #[v,yE yH i,yC (yP ⟨vb,0,yO⟩) 1 1] w fun e w'=>
   ∃ v',e = .returned v'∧w'.ownsRow B 177 1 v' (n+1) (xs.take (i*1)++(ys++xs.drop (i*1)))∧w.grownBy w' v.ownBlock:=by
 have gF:=h.1;by_cases dI:i=n
 ·subst dI;rw [← gF,List.take_length,List.drop_length,zi];exact aQI B i vb v xs ys tA w h hB hn hy hv fD
 rcases h.2 with ⟨rfl,rfl⟩ | ⟨g,cap,cur,rfl,hbg,hg,h3,h4,h5,h6⟩
 ·omega
 have MT:vb≠g:=fun e=>iM (by simp [Value.ownBlock,e]);by_cases hroom:n+1≤cap
 ·have hz:(cur.toList.drop (i)).take ((n-i)*1)=xs.drop (i):=by
   rw [← h6,List.drop_take];congr 1;omega
  refine (aP5 g n cap i vb cur ys tA w hg h5 (by omega) hroom h4 hy hv MT fD _ hz (fun u hu=>kR u (List.mem_of_mem_drop hu))).mono ?_;rintro e w' ⟨rfl,rfl⟩;have fW:cur.toList.length=cap*1:=by simpa using h5
  have nW:(n+1)*1≤cap*1:=Nat.mul_le_mul_right _ hroom;have cG:(xs.drop (i)).length=(n-i)*1:=by rw [zg];omega
  refine⟨_,rfl,⟨by simp [hy,gF];omega,.inr ⟨g,cap,(fT (fT cur.toList ((i+1)) (xs.drop (i))) (i) ys).toArray,rfl,hbg,?_,hroom,h4,by simp [jW,fW],?_⟩⟩,?_⟩
  ·have:=mF ys (i) _ _ (mF (xs.drop (i)) ((i+1)) w.drew _ hg);simpa using this
  ·rw [List.toList_toArray,qF _ _ _ (by rw [jW,hy,fW];omega),qF _ _ _ (by rw [cG,fW];omega),cG,hy];have e0:(cur.toList.take ((i+1))++(xs.drop (i)++cur.toList.drop ((i+1)+(n-i)*1))).take (i)=xs.take (i):=by
    rw [List.take_append_of_le_length (by rw [ze,fW];omega),List.take_take,← h6,List.take_take];congr 1;omega
   have e1:(cur.toList.take ((i+1))++(xs.drop (i)++cur.toList.drop ((i+1)+(n-i)*1))).drop (i+1)=xs.drop (i)++cur.toList.drop ((i+1)+(n-i)*1):=
    List.drop_left' (by rw [ze,fW];omega)
   rw [e0,e1,show i*1=i by omega];rw [← zf,← zf,← zf,List.take_left'];rw [yy,yy,ze,hy,gF,cG];omega
  exact mS (mS (FX w _) (eU g _ _ w.drew)) (eU g _ _ _)
 refine (aP6 g n cap i vb xs ys tA w gF (fun j u hj=>aG hg (by
  rw [← h6,List.getElem?_take] at hj
  split at hj
  ·exact hj
  cases hj)) (yo.1 hg).1 (by omega) (by omega) h3 hn hy hv fD kR).mono ?_
 rintro e w' ⟨v',rfl,ho,hk⟩;exact⟨v',rfl,by rw [show i*1=i by omega];exact dG ho hB,⟨hk.os,hk.tape,hk.output,hk.size,fun k dJ _=>hk.block k dJ⟩⟩
end
section
variable {w:World}
theorem UJ {P:Program} {ops:Array Oper} {o:Oper} {a:Act} {K:Act→World→Prop} {Q:Exit→Act→World→Prop} {E:Prop}
  (hg:o.guard=yO) (d x:Operand) (dT sT:TypeId) (hop:o.op=Op.call { callee:=Callee.builtin Builtin.append,args:=#[d,x],argTypes:=#[dT,sT] })
  (v u:Value) (hd:a.eval d=v) (hx:a.eval x=u) {v':Value} {w':World} (hr:(Builtin.append_ #[dT,sT] o.type #[v,u]).run P w = .ok v' w') (hK:K (a.put o.dst v') w') :
  if Region.wanted o (yielded ops a.tmps)=true then Oper.wp P o a w K Q else E:=by
 have hw:Region.wanted o (yielded ops a.tmps)=true:=by simp [Region.wanted,hg]
 rw [if_pos hw];unfold Oper.wp;simp [execOp,hop,resolve,invoke,builtin,hd,hx,hr,Result.andThen];exact hK
theorem PZ {P:Program} (w:World) (T ty elem:TypeId) (z:Value) (g o n cap:Nat) (hu:P.underlying T=yP (.slice elem)) (hz:∀ w,(zeroValue elem).run P w = .ok z w)
  (hn:0<n) (hc:∀ j,j<n*z.cells.size→(w.cell? ⟨g,o+j,yO⟩).isSome=true) (hf:∀ j,j<n*z.cells.size→w.frozen? ⟨g,o+j,yO⟩=false) (h1:∀ v∈(zm z.cells n).toList,v.oneCell'=true) :
  (Builtin.clear_ #[T] ty #[yC (yP ⟨g,o,yO⟩) n cap]).run P w = .ok (.tuple #[]) (w.setCells g o (zm z.cells n).toList):=by
 obtain⟨m,rfl⟩:∃ m,n=m+1:=⟨n-1,by omega⟩;have hl:(zm z.cells (m+1)).toList.length=(m+1)*z.cells.size:=by simp [zm]
 have hst:=run_storeCells_cells (P:=P) g o (zm z.cells (m+1)).toList 0 w (by rw [hl];simpa using hc) (by rw [hl];simpa using hf) h1;simp [Builtin.clear_,run_underlying hu,hz];rw [hst];simp
theorem U0 {B k:Nat} {e:TypeId} {g n cap:Nat} {xs:List Value} (h:w.ownsRow B e k (yC (yP ⟨g,0,yO⟩) n cap) n xs) (o:Nat) (vs:List Value) (ho:n*k≤o) (hl:o+vs.length≤cap*k) :
  (w.setCells g o vs).ownsRow B e k (yC (yP ⟨g,0,yO⟩) n cap) n xs:=by
 refine⟨h.1,?_⟩;rcases h.2 with ⟨h,_⟩ | ⟨g',cap',cur,h,hb,hg,h3,h4,h5,h6⟩
 ·cases h
 simp only [Value.slice.injEq,Option.some.injEq,Addr.mk.injEq,and_true,true_and] at h;obtain⟨rfl,rfl⟩:=h;refine .inr ⟨g,cap,_,rfl,hb,mF vs o w cur hg,h3,h4,by simp [jW,h5],?_⟩;have fW:cur.toList.length=cap*k:=by simpa using h5
 rw [List.toList_toArray,qF _ _ _ (by omega),List.take_append_of_le_length (by rw [ze];omega),List.take_take,Nat.min_eq_left ho];exact h6
theorem aXS (B n i:Nat) (v:Value) (xs:List Value) (w:World) (h:w.ownsRow B 52 2 v (n+1) xs) (hi:i≤n) (hn:n≤1000000) (kR:∀ u∈xs,u.oneCell'=true) :
  Calls yM 410 #[v,yE yH i,yE yH ((i:Int)+1)] w fun e w'=>
   ∃ v',e = .returned v'∧v'.ownBlock=v.ownBlock∧w'.ownsRow B 52 2 v' n (xs.take (i*2)++xs.drop ((i+1)*2))∧w.grownBy w' v.ownBlock:=by
 obtain⟨i0,bS,hz0,hzs,hzb⟩:=info_parts yU;have gF:=h.1;rcases h.2 with ⟨_,h0⟩ | ⟨g,cap,cur,rfl,hbg,hg,h3,h4,h5,h6⟩
 ·omega
 have KQ:cap≤9223372036854775807:=by unfold maxLen at h4;omega
 have MU:w.drew.ownsRow B 52 2 (yC (yP ⟨g,0,yO⟩) i cap) i (xs.take (i*2)):=by
  refine⟨by rw [ze];omega,.inr ⟨g,cap,cur,rfl,hbg,hg,by omega,h4,h5,?_⟩⟩;rw [← h6,List.take_take];congr 1;omega
 have hcell:∀ j u,xs[j]?=yP u→w.cell? ⟨g,j,yO⟩=yP u:=fun j u hj=>aG hg (by
  rw [← h6,List.getElem?_take] at hj
  split at hj
  ·exact hj
  cases hj)
 obtain⟨A,hA,DX⟩:∃ A:Addr,(if cap=i+1 then yP (⟨g,0,yO⟩:Addr) else yP ⟨g,(i+1)*2,yO⟩)=yP A∧Hid (∀ t u,(xs.drop ((i+1)*2))[t]?=yP u→w.drew.cell? (A.add t)=yP u):=by
  by_cases hc:cap=i+1
  ·refine⟨⟨g,0,yO⟩,by simp [hc],fun t u hu=>?_⟩;rw [List.drop_eq_nil_of_le (by omega)] at hu;simp at hu
  refine⟨⟨g,(i+1)*2,yO⟩,by simp [hc],fun t u hu=>?_⟩;rw [Addr.add_lit];rw [List.getElem?_drop] at hu;have:=hcell _ u hu;simpa using this
 have cG:(xs.drop ((i+1)*2)).length=(n-i)*2:=by rw [zg];omega
 have LQ:∀ ty,∃ w',(Builtin.append_ #[27,27] ty #[yC (yP ⟨g,0,yO⟩) i cap,yC (yP A) (n-i) (cap-(i+1))]).run yM w.drew = .ok (yC (yP ⟨g,0,yO⟩) n cap) w'∧
   w'.ownsRow B 52 2 (yC (yP ⟨g,0,yO⟩) n cap) n (xs.take (i*2)++xs.drop ((i+1)*2))∧w.drew.grownBy w' (yP g):=fun ty=>by
  have:=run_append_fits (P:=yM) (w:=w.drew) (ty:=ty) B 27 52 i0 2 underlying27 bS hzs g i cap _ MU A (n-i) (cap-(i+1)) _ cG DX.o (fun u hu=>kR u (List.mem_of_mem_drop hu)) (by omega);rw [show i+(n-i)=n by omega] at this;exact this
 obtain⟨W1,hrun,hown1,LR⟩:=LQ 27;have hgr:w.grownBy W1 (yP g):=mS (FX w _) LR;have hown2:Hid ((W1.setCells g (n*2) (zm ((yF #[yA yj,yA yj]):Value).cells 1).toList).ownsRow B 52 2 (yC (yP ⟨g,0,yO⟩) n cap) n (xs.take (i*2)++xs.drop ((i+1)*2))):=
  yN (U0 hown1 _ _ (by omega) (by simp [zm,Value.cells];omega))
 have BO:Hid (w.grownBy (W1.setCells g (n*2) (zm ((yF #[yA yj,yA yj]):Value).cells 1).toList) (yP g)):=yN (mS hgr (eU _ _ _ _));have LC:∃ vE:Array Value,W1.heap[g]?=yP (yL vE 52 (0,0))∧vE.size=cap*2:=by
  rcases hown1.2 with ⟨e,_⟩ | ⟨g',cap',cur',e,_,hh,_,_,hsz,_⟩
  ·cases e
  simp only [Value.slice.injEq,Option.some.injEq,Addr.mk.injEq,and_true,true_and] at e;obtain⟨rfl,rfl⟩:=e;exact⟨cur',hh,hsz⟩
 obtain⟨vE,mL,hs1⟩:=LC;have G7:∀ ty cp,(Builtin.clear_ #[27] ty #[yC (yP ⟨g,n*2,yO⟩) 1 cp]).run yM W1 = .ok (.tuple #[]) (W1.setCells g (n*2) (zm ((yF #[yA yj,yA yj]):Value).cells 1).toList):=fun ty cp=>
  PZ W1 _ ty 52 (yF #[yA yj,yA yj]) g (n*2) 1 cp underlying27 (Tryz.zeroValue52) (by decide) (fun j hj=>oO mL (by simp [Value.cells] at hj;omega)) (fun j hj=>aU mL) (by intro v hv;simp [zm,Value.cells] at hv;obtain⟨a,ha,rfl⟩:=hv;match a,ha with | 0,_=>rfl | 1,_=>rfl)
 obtain⟨W2,hW2⟩:∃ W2,W2=W1.setCells g (n*2) (zm ((yF #[yA yj,yA yj]):Value).cells 1).toList:=⟨_,rfl⟩;rw [← hW2] at hown2 BO G7;have mixed:yM.follows Departure.mixedOrders=true:=by kernel_rfl
 have cR:yH.wrap ((i:Int)+1)=(i:Int)+1:=by rw [zk];omega
 have hb0:¬ ((i:Int)=(i:Int)+1):=by omega
 have hb1:(0:Int)≤(i:Int)+1:=by omega
 have xI:((i:Int)+1).toNat=i+1:=by omega
 have hb2:(i:Int)≤(n:Int):=by omega
 have hb3:(i:Int)≤(i:Int)+1:=by omega
 have hb4:(i:Int)+1≤(n:Int)+1:=by omega
 have IL:(n:Int)+1≤(cap:Int):=by omega
 have hb6:i≤cap:=by omega
 have gG:¬ (cap=n):=by omega
 have hb8:n≤cap:=by omega
 have gW:n+1≤cap:=h3;clear hW2 hown1 LR hgr mL hs1 LQ DX MU hcell h hg h5 h6 gF cG kR;go_enter func410,ntmps410;go_wp2_with fail
 go_region_law_o (refine UJ rfl _ _ 27 27 rfl (yC (yP ⟨g,0,yO⟩) i cap) (yC (yP A) (n-i) (cap-(i+1))) (by simp [Act.eval,Act.put]) (by simp [Act.eval,Act.put]) hrun ?_)
 go_wp2_with fail;go_ret;exact⟨_,rfl,rfl,hown2.o,BO.o⟩
theorem aXT (B n i:Nat) (v:Value) (xs:List Value) (w:World) (h:w.ownsRow B 176 1 v (n+1) xs) (hi:i≤n) (hn:n≤1000000) (kR:∀ u∈xs,u.oneCell'=true) :
  Calls yM 411 #[v,yE yH i,yE yH ((i:Int)+1)] w fun e w'=>
   ∃ v',e = .returned v'∧v'.ownBlock=v.ownBlock∧w'.ownsRow B 176 1 v' n (xs.take (i*1)++xs.drop ((i+1)*1))∧w.grownBy w' v.ownBlock:=by
 obtain⟨i0,bS,hz0,hzs,hzb⟩:=info_parts KP;have gF:=h.1;rcases h.2 with ⟨_,h0⟩ | ⟨g,cap,cur,rfl,hbg,hg,h3,h4,h5,h6⟩
 ·omega
 have KQ:cap≤9223372036854775807:=by unfold maxLen at h4;omega
 have MU:w.drew.ownsRow B 176 1 (yC (yP ⟨g,0,yO⟩) i cap) i (xs.take (i*1)):=by
  refine⟨by rw [ze];omega,.inr ⟨g,cap,cur,rfl,hbg,hg,by omega,h4,h5,?_⟩⟩;rw [← h6,List.take_take];congr 1;omega
 have hcell:∀ j u,xs[j]?=yP u→w.cell? ⟨g,j,yO⟩=yP u:=fun j u hj=>aG hg (by
  rw [← h6,List.getElem?_take] at hj
  split at hj
  ·exact hj
  cases hj)
 obtain⟨A,hA,DX⟩:∃ A:Addr,(if cap=i+1 then yP (⟨g,0,yO⟩:Addr) else yP ⟨g,(i+1),yO⟩)=yP A∧Hid (∀ t u,(xs.drop ((i+1)*1))[t]?=yP u→w.drew.cell? (A.add t)=yP u):=by
  by_cases hc:cap=i+1
  ·refine⟨⟨g,0,yO⟩,by simp [hc],fun t u hu=>?_⟩;rw [List.drop_eq_nil_of_le (by omega)] at hu;simp at hu
  refine⟨⟨g,(i+1),yO⟩,by simp [hc],fun t u hu=>?_⟩;rw [Addr.add_lit];rw [List.getElem?_drop] at hu;have:=hcell _ u hu;simpa using this
 have cG:(xs.drop ((i+1)*1)).length=(n-i)*1:=by rw [zg];omega
 have LQ:∀ ty,∃ w',(Builtin.append_ #[406,406] ty #[yC (yP ⟨g,0,yO⟩) i cap,yC (yP A) (n-i) (cap-(i+1))]).run yM w.drew = .ok (yC (yP ⟨g,0,yO⟩) n cap) w'∧
   w'.ownsRow B 176 1 (yC (yP ⟨g,0,yO⟩) n cap) n (xs.take (i*1)++xs.drop ((i+1)*1))∧w.drew.grownBy w' (yP g):=fun ty=>by
  have:=run_append_fits (P:=yM) (w:=w.drew) (ty:=ty) B 406 176 i0 1 underlying406 bS hzs g i cap _ MU A (n-i) (cap-(i+1)) _ cG DX.o (fun u hu=>kR u (List.mem_of_mem_drop hu)) (by omega);rw [show i+(n-i)=n by omega] at this;exact this
 obtain⟨W1,hrun,hown1,LR⟩:=LQ 406;have hgr:w.grownBy W1 (yP g):=mS (FX w _) LR;have hown2:Hid ((W1.setCells g (n) (zm ((yB yO):Value).cells 1).toList).ownsRow B 176 1 (yC (yP ⟨g,0,yO⟩) n cap) n (xs.take (i*1)++xs.drop ((i+1)*1))):=
  yN (U0 hown1 _ _ (by omega) (by simp [zm,Value.cells];omega))
 have BO:Hid (w.grownBy (W1.setCells g (n) (zm ((yB yO):Value).cells 1).toList) (yP g)):=yN (mS hgr (eU _ _ _ _));have LC:∃ vE:Array Value,W1.heap[g]?=yP (yL vE 176 (0,0))∧vE.size=cap*1:=by
  rcases hown1.2 with ⟨e,_⟩ | ⟨g',cap',cur',e,_,hh,_,_,hsz,_⟩
  ·cases e
  simp only [Value.slice.injEq,Option.some.injEq,Addr.mk.injEq,and_true,true_and] at e;obtain⟨rfl,rfl⟩:=e;exact⟨cur',hh,hsz⟩
 obtain⟨vE,mL,hs1⟩:=LC;have G7:∀ ty cp,(Builtin.clear_ #[406] ty #[yC (yP ⟨g,n,yO⟩) 1 cp]).run yM W1 = .ok (.tuple #[]) (W1.setCells g (n) (zm ((yB yO):Value).cells 1).toList):=fun ty cp=>
  PZ W1 _ ty 176 (yB yO) g (n) 1 cp underlying406 (Tryz.zeroValue176) (by decide) (fun j hj=>oO mL (by simp [Value.cells] at hj;omega)) (fun j hj=>aU mL) (by simp [zm,Value.cells,Value.oneCell'])
 obtain⟨W2,hW2⟩:∃ W2,W2=W1.setCells g (n) (zm ((yB yO):Value).cells 1).toList:=⟨_,rfl⟩;rw [← hW2] at hown2 BO G7;have mixed:yM.follows Departure.mixedOrders=true:=by kernel_rfl
 have cR:yH.wrap ((i:Int)+1)=(i:Int)+1:=by rw [zk];omega
 have hb0:¬ ((i:Int)=(i:Int)+1):=by omega
 have hb1:(0:Int)≤(i:Int)+1:=by omega
 have xI:((i:Int)+1).toNat=i+1:=by omega
 have hb2:(i:Int)≤(n:Int):=by omega
 have hb3:(i:Int)≤(i:Int)+1:=by omega
 have hb4:(i:Int)+1≤(n:Int)+1:=by omega
 have IL:(n:Int)+1≤(cap:Int):=by omega
 have hb6:i≤cap:=by omega
 have gG:¬ (cap=n):=by omega
 have hb8:n≤cap:=by omega
 have gW:n+1≤cap:=h3;clear hW2 hown1 LR hgr mL hs1 LQ DX MU hcell h hg h5 h6 gF cG kR;go_enter func411,ntmps411;go_wp2_with fail
 go_region_law_o (refine UJ rfl _ _ 406 406 rfl (yC (yP ⟨g,0,yO⟩) i cap) (yC (yP A) (n-i) (cap-(i+1))) (by simp [Act.eval,Act.put]) (by simp [Act.eval,Act.put]) hrun ?_)
 go_wp2_with fail;go_ret;exact⟨_,rfl,rfl,hown2.o,BO.o⟩
theorem aXU (B n i:Nat) (v:Value) (xs:List Value) (w:World) (h:w.ownsRow B 177 1 v (n+1) xs) (hi:i≤n) (hn:n≤1000000) (kR:∀ u∈xs,u.oneCell'=true) :
  Calls yM 299 #[v,yE yH i,yE yH ((i:Int)+1)] w fun e w'=>
   ∃ v',e = .returned v'∧v'.ownBlock=v.ownBlock∧w'.ownsRow B 177 1 v' n (xs.take (i*1)++xs.drop ((i+1)*1))∧w.grownBy w' v.ownBlock:=by
 obtain⟨i0,bS,hz0,hzs,hzb⟩:=info_parts DM;have gF:=h.1;rcases h.2 with ⟨_,h0⟩ | ⟨g,cap,cur,rfl,hbg,hg,h3,h4,h5,h6⟩
 ·omega
 have KQ:cap≤9223372036854775807:=by unfold maxLen at h4;omega
 have MU:w.drew.ownsRow B 177 1 (yC (yP ⟨g,0,yO⟩) i cap) i (xs.take (i*1)):=by
  refine⟨by rw [ze];omega,.inr ⟨g,cap,cur,rfl,hbg,hg,by omega,h4,h5,?_⟩⟩;rw [← h6,List.take_take];congr 1;omega
 have hcell:∀ j u,xs[j]?=yP u→w.cell? ⟨g,j,yO⟩=yP u:=fun j u hj=>aG hg (by
  rw [← h6,List.getElem?_take] at hj
  split at hj
  ·exact hj
  cases hj)
 obtain⟨A,hA,DX⟩:∃ A:Addr,(if cap=i+1 then yP (⟨g,0,yO⟩:Addr) else yP ⟨g,(i+1),yO⟩)=yP A∧Hid (∀ t u,(xs.drop ((i+1)*1))[t]?=yP u→w.drew.cell? (A.add t)=yP u):=by
  by_cases hc:cap=i+1
  ·refine⟨⟨g,0,yO⟩,by simp [hc],fun t u hu=>?_⟩;rw [List.drop_eq_nil_of_le (by omega)] at hu;simp at hu
  refine⟨⟨g,(i+1),yO⟩,by simp [hc],fun t u hu=>?_⟩;rw [Addr.add_lit];rw [List.getElem?_drop] at hu;have:=hcell _ u hu;simpa using this
 have cG:(xs.drop ((i+1)*1)).length=(n-i)*1:=by rw [zg];omega
 have LQ:∀ ty,∃ w',(Builtin.append_ #[343,343] ty #[yC (yP ⟨g,0,yO⟩) i cap,yC (yP A) (n-i) (cap-(i+1))]).run yM w.drew = .ok (yC (yP ⟨g,0,yO⟩) n cap) w'∧
   w'.ownsRow B 177 1 (yC (yP ⟨g,0,yO⟩) n cap) n (xs.take (i*1)++xs.drop ((i+1)*1))∧w.drew.grownBy w' (yP g):=fun ty=>by
  have:=run_append_fits (P:=yM) (w:=w.drew) (ty:=ty) B 343 177 i0 1 underlying343 bS hzs g i cap _ MU A (n-i) (cap-(i+1)) _ cG DX.o (fun u hu=>kR u (List.mem_of_mem_drop hu)) (by omega);rw [show i+(n-i)=n by omega] at this;exact this
 obtain⟨W1,hrun,hown1,LR⟩:=LQ 343;have hgr:w.grownBy W1 (yP g):=mS (FX w _) LR;have hown2:Hid ((W1.setCells g (n) (zm ((yB yO):Value).cells 1).toList).ownsRow B 177 1 (yC (yP ⟨g,0,yO⟩) n cap) n (xs.take (i*1)++xs.drop ((i+1)*1))):=
  yN (U0 hown1 _ _ (by omega) (by simp [zm,Value.cells];omega))
 have BO:Hid (w.grownBy (W1.setCells g (n) (zm ((yB yO):Value).cells 1).toList) (yP g)):=yN (mS hgr (eU _ _ _ _));have LC:∃ vE:Array Value,W1.heap[g]?=yP (yL vE 177 (0,0))∧vE.size=cap*1:=by
  rcases hown1.2 with ⟨e,_⟩ | ⟨g',cap',cur',e,_,hh,_,_,hsz,_⟩
  ·cases e
  simp only [Value.slice.injEq,Option.some.injEq,Addr.mk.injEq,and_true,true_and] at e;obtain⟨rfl,rfl⟩:=e;exact⟨cur',hh,hsz⟩
 obtain⟨vE,mL,hs1⟩:=LC;have G7:∀ ty cp,(Builtin.clear_ #[343] ty #[yC (yP ⟨g,n,yO⟩) 1 cp]).run yM W1 = .ok (.tuple #[]) (W1.setCells g (n) (zm ((yB yO):Value).cells 1).toList):=fun ty cp=>
  PZ W1 _ ty 177 (yB yO) g (n) 1 cp underlying343 (Tryz.zeroValue177) (by decide) (fun j hj=>oO mL (by simp [Value.cells] at hj;omega)) (fun j hj=>aU mL) (by simp [zm,Value.cells,Value.oneCell'])
 obtain⟨W2,hW2⟩:∃ W2,W2=W1.setCells g (n) (zm ((yB yO):Value).cells 1).toList:=⟨_,rfl⟩;rw [← hW2] at hown2 BO G7;have mixed:yM.follows Departure.mixedOrders=true:=by kernel_rfl
 have cR:yH.wrap ((i:Int)+1)=(i:Int)+1:=by rw [zk];omega
 have hb0:¬ ((i:Int)=(i:Int)+1):=by omega
 have hb1:(0:Int)≤(i:Int)+1:=by omega
 have xI:((i:Int)+1).toNat=i+1:=by omega
 have hb2:(i:Int)≤(n:Int):=by omega
 have hb3:(i:Int)≤(i:Int)+1:=by omega
 have hb4:(i:Int)+1≤(n:Int)+1:=by omega
 have IL:(n:Int)+1≤(cap:Int):=by omega
 have hb6:i≤cap:=by omega
 have gG:¬ (cap=n):=by omega
 have hb8:n≤cap:=by omega
 have gW:n+1≤cap:=h3;clear hW2 hown1 LR hgr mL hs1 LQ DX MU hcell h hg h5 h6 gF cG kR;go_enter func299,ntmps299;go_wp2_with fail
 go_region_law_o (refine UJ rfl _ _ 343 343 rfl (yC (yP ⟨g,0,yO⟩) i cap) (yC (yP A) (n-i) (cap-(i+1))) (by simp [Act.eval,Act.put]) (by simp [Act.eval,Act.put]) hrun ?_)
 go_wp2_with fail;go_ret;exact⟨_,rfl,rfl,hown2.o,BO.o⟩
end
section
variable {cs:List Value} {n B k:Nat} {v:Value} {e:TypeId} {w w':World}
def ON (B:Nat) (w:World) (c data nodes:Nat) (pv kv:Value) (bk:Bool) (np nk:Nat) (ps ks:List Value):Prop:=
 w.heap[c]?=yP (yL #[yE yI data,yE yI nodes,pv,kv,yD bk,yB yO] 410 (0,0))∧B≤c∧
  w.ownsRow B 52 2 pv np ps∧w.ownsRow B 176 1 kv nk ks
theorem dX (h:w.ownsRow B e k v n cs) {g:Nat} (hg:v.ownBlock=yP g):∃ cur,w.heap[g]?=yP (yL cur e (0,0)):=by
 rcases h.2 with ⟨rfl,_⟩ | ⟨g',cap,cur,rfl,hb,hh,_⟩
 ·simp [Value.ownBlock] at hg
 simp [Value.ownBlock] at hg;subst hg;exact⟨_,hh⟩
theorem cF (h:w.ownsRow B e k v n cs) (hk:∀ g,v.ownBlock=yP g→w'.heap[g]?=w.heap[g]?):w'.ownsRow B e k v n cs:=by
 refine⟨h.1,?_⟩;rcases h.2 with hn | ⟨g,cap,cur,rfl,hb,hh,rest⟩
 ·exact .inl hn
 exact .inr ⟨g,cap,cur,rfl,hb,(hk g rfl).trans hh,rest⟩
theorem bT (h:w.ownsRow B e k v n cs) (hk:Kept w w'):w'.ownsRow B e k v n cs:=
 cF h fun g hg=>by
  obtain⟨cur,hc⟩:=dX h hg;exact hk.block g (yo.1 hc).1
theorem bW (h:w.ownsRow B e k v n cs):∃ a cap,v=yC a n cap:=by
 rcases h.2 with ⟨rfl,rfl⟩ | ⟨g,cap,cur,rfl,_⟩
 ·exact⟨_,_,rfl⟩
 exact⟨_,_,rfl⟩
theorem aIA (b data nodes np nk:Nat) (pv kv:Value) (bk:Bool) (ps ks:List Value) (w:World) (h:NA w b data nodes pv kv bk) (hp:Rd w pv np ps) (hk:Rd w kv nk ks)
  (hpl:ps.length=np*2) (B6:ks.length=nk*1) (hnp:np≤1000000) (lT:nk≤1000000) (h1p:∀ u∈ps,u.oneCell'=true) (h1k:∀ u∈ks,u.oneCell'=true) :
  Calls yM 353 #[yB (yP ⟨b,0,yO⟩),yB yO] w fun e w'=>
   ∃ c pD bX,e = .returned (yB (yP ⟨c,0,yO⟩))∧ON w.heap.size w' c data nodes pD bX bk np nk ps ks∧Kept w w':=by
 obtain⟨-,c0,c1,c2,c3,c4,o,c5⟩:=id h;obtain⟨ap,cp,rfl⟩:=hp.shape;obtain⟨ak,ck,rfl⟩:=hk.shape;have HP:=yN hp;have HK:=yN hk;have H1:=yN (yd h1p h1k);have hbl:=mU c0;go_enter func353,ntmps353
 go_wp2_with (first
  | (go_at_call 408;refine (aUI _ _ _ _ _ _ _ h).mono ?_;rintro e w' ⟨rfl,rfl⟩))
 obtain⟨kS,hn1⟩:=aW w (yL #[yE yI data,yE yI nodes,yC ap np cp,yC ak nk ck,yD bk,.pointer o] 410);have hs1:w.heap.size<(w.alloc (yL #[yE yI data,yE yI nodes,yC ap np cp,yC ak nk ck,yD bk,.pointer o] 410)).heap.size:=by simp
 generalize w.alloc _=w1 at *;have d2:=kS.cell c2;have d3:=kS.cell c3;refine cP (fun W:World=>W.cell? ⟨b,2,yO⟩=yP (yC ap np cp)∧W.cell? ⟨b,3,yO⟩=yP (yC ak nk ck)) 14 18 ⟨d2,d3⟩ fun HS=>?_;refine tM 0 HS ?_;refine tM 1 HS ?_;refine tM 2 HS ?_;refine tM 3 HS ?_;refine lM 4 HS ?_;refine tM 6 HS ?_;refine tM 7 HS ?_;refine tM 8 HS ?_;refine tM 9 HS ?_;refine lM 10 HS ?_;go_frame;have hP:=HP.o.kept (w':=w1.drew) (ym kS);refine oM 5 fun K hK=>?_;go_simp;refine (KF _ _ _ _ hP hpl hnp H1.o.1).mono ?_;rintro e w2 ⟨v1,rfl,gH,hk2⟩;have j5:w2.heap[w.heap.size]?=yP (yL #[yE yI data,yE yI nodes,yC ap np cp,yC ak nk ck,yD bk,.pointer o] 410 (0,0)):=(hk2.block _ hs1).trans hn1;have hK2:Kept w w2:=(ym kS).trans (hk2.mono kS.size);have hs2:w.heap.size<w2.heap.size:=yi hs1 hk2.size;have lU:=yN (aD bL hk2 HS.o);refine hK _ _ (.inr lU.o) ?_;have R3:=dG gH (B':=w.heap.size) kS.size;have hP:=HK.o.kept hK2;refine oM 11 fun K hK=>?_;go_simp;refine (aH7 _ _ _ _ hP B6 lT H1.o.2).mono ?_;rintro e w3 ⟨v2,rfl,cI,hk3⟩;have EE:w3.heap[w.heap.size]?=yP (yL #[yE yI data,yE yI nodes,yC ap np cp,yC ak nk ck,yD bk,.pointer o] 410 (0,0)):=(hk3.block _ hs2).trans j5;have hK3:Kept w w3:=aB hK2 hk3;have jF:=yN (aD bL hk3 lU.o);refine hK _ _ (.inr jF.o) ?_;have aJM:=bT R3 hk3;have aKJ:=dG cI (B':=w.heap.size) hK2.size;obtain⟨a1,p1,rfl⟩:=bW aJM;obtain⟨a2,p2,rfl⟩:=bW aKJ;refine tM 12 jF ?_;refine tM 13 jF ?_;go_frame;have f2:w3.frozen? ⟨w.heap.size,2,yO⟩=false:=aU EE;have e2:w3.cell? ⟨w.heap.size,2,yO⟩=yP (yC ap np cp):=aG EE rfl;refine oM 14 fun K hK=>?_;go_simp;refine hK _ _ aX ?_;have B7:=heap_setCell (o:=2) (v:=yC a1 np p1) EE;have hg4:w3.grownBy (w3.setCell ⟨w.heap.size,2,yO⟩ (yC a1 np p1)) (yP w.heap.size):=eU w.heap.size [_] 2 w3;simp only [yp,yu,yv] at B7;generalize w3.setCell _ _=w4 at *;refine fF 15 aX (h:=?_);refine fF 16 aX (h:=?_);go_frame;have f3:w4.frozen? ⟨w.heap.size,3,yO⟩=false:=aU B7;have e3:w4.cell? ⟨w.heap.size,3,yO⟩=yP (yC ak nk ck):=aG B7 rfl;refine oM 17 fun K hK=>?_;go_simp;refine hK _ _ aX ?_;have SK:=heap_setCell (o:=3) (v:=yC a2 nk p2) B7;have hg5:w4.grownBy (w4.setCell ⟨w.heap.size,3,yO⟩ (yC a2 nk p2)) (yP w.heap.size):=eU w.heap.size [_] 3 w4;simp only [yp,yu,yv] at SK;generalize w4.setCell _ _=w5 at *;refine cM ?_;have f5:w5.frozen? ⟨w.heap.size,5,yO⟩=false:=aU SK;have e5:w5.cell? ⟨w.heap.size,5,yO⟩=yP (.pointer o):=aG SK rfl;have hg:=mS hg4 hg5;have HN:=yN SK;have HG:=yN hg;have eE:=yN aJM;have dZ:=yN aKJ;have aL:=yN hK3;have eA:=yN EE
 go_wp2_with (first
  | (go_at_call 274;refine (QW _).mono ?_;rintro e w' ⟨rfl,rfl⟩))
 all_goals go_ret
 have hn6:=heap_setCell (o:=5) (v:=yB yO) HN.o;simp only [yp,yu,yv] at hn6;have vN:w3.grownBy (w5.setCell ⟨w.heap.size,5,yO⟩ (yB yO)) (yP w.heap.size):=mS HG.o (eU w.heap.size [_] 5 w5);have keep:∀ (v:Value) (k n:Nat) (e:TypeId) (cs:List Value),w3.ownsRow w.heap.size e k v n cs→e≠410→(w5.setCell ⟨w.heap.size,5,yO⟩ (yB yO)).ownsRow w.heap.size e k v n cs:=fun v k n e cs ho hne=>
  cF ho fun g hg=>by
   obtain⟨cur,hc⟩:=dX ho hg;refine vN.block g (yo.1 hc).1 (fun e'=>?_);cases e';rw [eA.o] at hc;cases hc;exact hne rfl
 refine⟨_,_,_,rfl,⟨hn6,ye _,keep _ _ _ _ _ eE.o (by decide),keep _ _ _ _ _ dZ.o (by decide)⟩,?_⟩;exact yn aL.o ⟨vN.os,vN.tape,vN.output,vN.size,fun k hk=>vN.block k (yi hk aL.o.size) (by simp;omega)⟩
end
section
variable {cs:List Value} {v:Value} {e:TypeId} {k i x:Nat} {w1:World}
section
variable {B:Nat} {w:World} {c d n:Nat} {pv kv:Value} {bk:Bool} {np nk:Nat} {ps ks:List Value}
theorem ON.lt (h:ON B w c d n pv kv bk np nk ps ks):c<w.heap.size:=(yo.1 h.1).1
theorem ON.le (h:ON B w c d n pv kv bk np nk ps ks):B≤w.heap.size:=yf h.2.1 (Nat.le_of_lt h.lt)
theorem ON.na (h:ON B w c d n pv kv bk np nk ps ks):NA w c d n pv kv bk:=⟨⟨⟨XH h.2.2.1,XH h.2.2.2⟩,_,_,h.1⟩,aG h.1 rfl,aG h.1 rfl,aG h.1 rfl,aG h.1 rfl,aG h.1 rfl,_,aG h.1 rfl⟩
theorem ON.fz (h:ON B w c d n pv kv bk np nk ps ks) (j:Nat):w.frozen? ⟨c,j,yO⟩=false:=aU h.1
theorem ON.IP (h:ON B w c d n pv kv bk np nk ps ks):pv.ownBlock≠yP c:=fun e=>by
 obtain⟨cur,hc⟩:=dX h.2.2.1 e;rw [h.1] at hc;cases hc
theorem ON.IQ (h:ON B w c d n pv kv bk np nk ps ks):kv.ownBlock≠yP c:=fun e=>by
 obtain⟨cur,hc⟩:=dX h.2.2.2 e;rw [h.1] at hc;cases hc
theorem fR {w:World} {B:Nat} {n:Nat} (h:w.ownsRow B e k v n cs) {c:Nat} {cur:Array Value} {T:TypeId} (hc:w.heap[c]?=yP (yL cur T (0,0))) (hT:T≠e):v.ownBlock≠yP c:=fun e'=>by
 obtain⟨cur',hh⟩:=dX h e';rw [hc] at hh;cases hh;exact hT rfl
theorem F8 {n:Nat} (h:w.ownsRow B e k v n cs) (hg:w.grownBy w1 v.ownBlock) (hB:B≤w.heap.size):Below B w w1:=
 (yk B w).grown hg hB (fun k hk=>(h.lt k hk).1)
theorem ON.pairs (h:ON B w c d n pv kv bk np nk ps ks) (hg:w.grownBy w1 pv.ownBlock) {pD:Value} {np':Nat} {MX:List Value} (ho:w1.ownsRow B 52 2 pD np' MX) :
  ON B (w1.setCell ⟨c,2,yO⟩ pD) c d n pD kv bk np' nk MX ks∧Below B w (w1.setCell ⟨c,2,yO⟩ pD):=by
 have h1:w1.heap[c]?=yP (yL #[yE yI d,yE yI n,pv,kv,yD bk,yB yO] 410 (0,0)):=by rw [hg.block c h.lt (fun e=>h.IP e.symm)];exact h.1
 have h2:=heap_setCell (o:=2) (v:=pD) h1;simp only [yp,yu,yv] at h2;have hs:∀ (g:Nat),yP c≠yP g→(w1.setCell ⟨c,2,yO⟩ pD).heap[g]?=w1.heap[g]?:=fun g hne=>yl _ _ _ _ (fun e=>hne (by rw [e]));refine⟨⟨h2,h.2.1,cF ho fun g cS=>hs g (fun e=>fR ho h1 (by decide) (cS.trans e.symm)),?_⟩,(F8 h.2.2.1 hg h.le).setCell h.2.1 _⟩;have aS:w1.ownsRow B 176 1 kv nk ks:=cF h.2.2.2 fun g cS=>by
  obtain⟨cur,hc⟩:=dX h.2.2.2 cS;exact hg.block g (yo.1 hc).1 (fun e=>fR h.2.2.1 hc (by decide) e.symm)
 exact cF aS fun g cS=>hs g (fun e=>fR aS h1 (by decide) (cS.trans e.symm))
theorem ON.kids (h:ON B w c d n pv kv bk np nk ps ks) (hg:w.grownBy w1 kv.ownBlock) {bX:Value} {MZ:Nat} {lV:List Value} (ho:w1.ownsRow B 176 1 bX MZ lV) :
  ON B (w1.setCell ⟨c,3,yO⟩ bX) c d n pv bX bk np MZ ps lV∧Below B w (w1.setCell ⟨c,3,yO⟩ bX):=by
 have h1:w1.heap[c]?=yP (yL #[yE yI d,yE yI n,pv,kv,yD bk,yB yO] 410 (0,0)):=by rw [hg.block c h.lt (fun e=>h.IQ e.symm)];exact h.1
 have h2:=heap_setCell (o:=3) (v:=bX) h1;simp only [yp,yu,yv] at h2;have hs:∀ (g:Nat),yP c≠yP g→(w1.setCell ⟨c,3,yO⟩ bX).heap[g]?=w1.heap[g]?:=fun g hne=>yl _ _ _ _ (fun e=>hne (by rw [e]));have B4:w1.ownsRow B 52 2 pv np ps:=cF h.2.2.1 fun g cS=>by
  obtain⟨cur,hc⟩:=dX h.2.2.1 cS;exact hg.block g (yo.1 hc).1 (fun e=>fR h.2.2.2 hc (by decide) e.symm)
 refine⟨⟨h2,h.2.1,cF B4 fun g cS=>hs g (fun e=>fR B4 h1 (by decide) (cS.trans e.symm)),cF ho fun g cS=>hs g (fun e=>fR ho h1 (by decide) (cS.trans e.symm))⟩,(F8 h.2.2.2 hg h.le).setCell h.2.1 _⟩
theorem ON.turn (h:ON B w c d n pv kv bk np nk ps ks) (o:Nat) (v:Value) {cs':Array Value} (hc:(#[yE yI d,yE yI n,pv,kv,yD bk,yB yO]:Array Value).setIfInBounds o v=cs') :
  (w.setCell ⟨c,o,yO⟩ v).heap[c]?=yP (yL cs' 410 (0,0))∧(w.setCell ⟨c,o,yO⟩ v).ownsRow B 52 2 pv np ps∧(w.setCell ⟨c,o,yO⟩ v).ownsRow B 176 1 kv nk ks∧Below B w (w.setCell ⟨c,o,yO⟩ v):=by
 have h2:=heap_setCell (o:=o) (v:=v) h.1;rw [hc] at h2;have hs:∀ (g:Nat),yP c≠yP g→(w.setCell ⟨c,o,yO⟩ v).heap[g]?=w.heap[g]?:=fun g hne=>yl _ _ _ _ (fun e=>hne (by rw [e]));exact⟨h2,cF h.2.2.1 fun g cS=>hs g (fun e=>h.IP (cS.trans e.symm)),cF h.2.2.2 fun g cS=>hs g (fun e=>h.IQ (cS.trans e.symm)),(yk _ _).setCell h.2.1 _⟩
theorem ON.data (h:ON B w c d n pv kv bk np nk ps ks) (d':Nat):ON B (w.setCell ⟨c,0,yO⟩ (yE yI d')) c d' n pv kv bk np nk ps ks∧Below B w (w.setCell ⟨c,0,yO⟩ (yE yI d')):=
 let ⟨a,b,e,f⟩:=h.turn 0 (yE yI d') rfl;⟨⟨a,h.2.1,b,e⟩,f⟩
theorem ON.nodes (h:ON B w c d n pv kv bk np nk ps ks) (n':Nat):ON B (w.setCell ⟨c,1,yO⟩ (yE yI n')) c d n' pv kv bk np nk ps ks∧Below B w (w.setCell ⟨c,1,yO⟩ (yE yI n')):=
 let ⟨a,b,e,f⟩:=h.turn 1 (yE yI n') rfl;⟨⟨a,h.2.1,b,e⟩,f⟩
end
theorem a2Y (x i:Nat) (hx:x<4294967296):cut x i<4294967296:=Nat.lt_of_le_of_lt Nat.and_le_left hx
theorem a0F (x i j:Nat) (hx:x<4294967296) (hi:i<32):(cut x i).testBit j=(x.testBit j && decide (i≠j)):=by
 unfold cut;rw [Nat.testBit_and,show (4294967295:Nat)-2 ^ i=2 ^ 32-(2 ^ i+1) by omega,Nat.testBit_two_pow_sub_succ (show 2 ^ i<2 ^ 32 from (KE i hi).2),Nat.testBit_two_pow];by_cases h:j<32;·simp [h]
 have hz:x.testBit j=false:=Nat.testBit_lt_two_pow (yi hx (Nat.pow_le_pow_right (n:=2) (by decide) (show 32≤j by omega)));simp [hz]
theorem GG {α:Type} {P:Nat→Option α} (h:Bits x P) (hi:i<32):Bits (cut x i) (put P i yO):=by
 refine⟨a2Y x i h.1,fun j hj=>?_⟩;rw [a0F x i j h.1 hi,h.2 j hj];by_cases e:i=j;·subst e;simp [put]
 rw [oV _ _ (fun e'=>e e'.symm)];simp [e]
theorem QY {α:Type} {P:Nat→Option α} (h:Bits x P) (hi:i<32) (v:α):Bits (x ||| 2 ^ i) (put P i (yP v)):=by
 refine⟨Nat.or_lt_two_pow h.1 (Nat.pow_lt_pow_right (by decide) hi),fun j hj=>?_⟩;rw [Nat.testBit_or,Nat.testBit_two_pow,h.2 j hj];by_cases e:i=j;·subst e;simp [put]
 rw [oV _ _ (fun e'=>e e'.symm)];simp [e]
def xL (B:Nat) (w:World) (c:Nat) (P:Nat→Option Pr) (Q:Nat→Option Nat):Prop:=
 ∃ d n pv kv,ON B w c d n pv kv false (aT P).length (aT Q).length (aK (aT P)) ((aT Q).map ptr)∧Bits d P∧Bits n Q
theorem nQ (l:List Pr):∀ u∈aK l,u.oneCell'=true:=by
 induction l with
 | nil=>intro u hu;cases hu
 | cons p l ih=>
  intro u hu;simp only [aK,yx] at hu;rcases hu with rfl | rfl | hu
  ·rfl
  ·rfl
  exact ih u hu
theorem RA (l:List Nat):∀ u∈l.map ptr,u.oneCell'=true:=by
 intro u hu;obtain⟨x,_,rfl⟩:=zj.1 hu;rfl
theorem lH (l m:List Pr):aK (l++m)=aK l++aK m:=by
 induction l with
 | nil=>rfl
 | cons p l ih=>simp [aK,ih]
theorem FY (l:List Pr) (k:Nat):(aK l).take (k*2)=aK (l.take k):=by
 induction l generalizing k with
 | nil=>simp [aK]
 | cons p l ih=>
  cases k with
  | zero=>simp [aK]
  | succ k=>rw [show (k+1)*2=k*2+1+1 by omega];simp [aK,ih]
theorem JQ (l:List Pr) (k:Nat):(aK l).drop (k*2)=aK (l.drop k):=by
 induction l generalizing k with
 | nil=>simp [aK]
 | cons p l ih=>
  cases k with
  | zero=>simp [aK]
  | succ k=>rw [show (k+1)*2=k*2+1+1 by omega];simp [aK,ih]
theorem aFU (n:Nat) (h:n<4611686018427387904):wrap64 ((n:Int)+1)=(n:Int)+1:=by unfold wrap64;omega
theorem xB (x i:Nat) (w:World) (hx:x<4294967296) (hi:i<32) :
  Calls yM 317 #[yE yI x,yE yH i] w fun e w'=>e = .returned (yE yH (ones i x:Nat))∧∃ n,w'=w.drewN n:=by
 by_cases h0:i=0
 ·subst h0;rw [show ones 0 x=0 by simp [ones]];exact (aXO x 0 w (by omega)).mono fun e w' ⟨he,hw⟩=>⟨he,0,hw⟩
 exact aXN x i w hx (by omega) hi
theorem A7 {B c n:Nat} {w:World} {d m:Nat} {pv kv:Value} {bk:Bool} {np nk:Nat} {ps ks:List Value} (h:ON B w c d m pv kv bk np nk ps ks):ON B (w.drewN n) c d m pv kv bk np nk ps ks:=h
theorem aPN (B c i:Nat) (P:Nat→Option Pr) (Q:Nat→Option Nat) (w:World) (h:xL B w c P Q) (hi:i<32) (hP:P i=yO) (hQ:Q i=yO) :
  Calls yM 356 #[yB (yP ⟨c,0,yO⟩),yE yH i] w fun e w'=>e = .returned (.tuple #[])∧xL B w' c (put P i yO) (put Q i yO)∧Below B w w':=by
 obtain⟨d,n,pv,kv,dB,bd,bn⟩:=h;have hd:=bd.1;have hn:=bn.1;have td:d.testBit i=false:=by rw [bd.2 i hi,hP];rfl
 have tn:n.testBit i=false:=by rw [bn.2 i hi,hQ];rfl
 obtain⟨-,c0,c1,c2,c3,c4,o5,c5⟩:=id dB.na;go_enter func356,ntmps356;go_wp2_with fail;refine (qI d i _ hd hi).mono ?_;rintro e w' ⟨rfl,rfl⟩;rw [td];go_wp2_with fail;refine (qI n i _ hn hi).mono ?_;rintro e w' ⟨rfl,rfl⟩;rw [tn];go_wp2_with fail;have HB:=yN (yk B w);have HO:Hid (ON B w.drew c d n _ _ _ _ _ _ _):=yN dB;have HD:Hid (Below B w w.drew):=yN (ym HB.o);refine cP (fun W:World=>W.cell? ⟨c,0,yO⟩=yP (yE yI d)∧W.cell? ⟨c,1,yO⟩=yP (yE yI n)) 16 20 ⟨dB.na.c0,dB.na.c1⟩ fun HS=>?_;generalize w.drew=wd at *;refine tM 0 HS ?_;refine tM 1 HS ?_;refine tM 2 HS ?_;refine tM 3 HS ?_;refine tM 4 HS ?_;refine lM 5 HS ?_;refine tM 6 HS ?_;refine tM 8 HS ?_;refine tM 9 HS ?_;refine tM 10 HS ?_;refine lM 11 HS ?_;refine tM 12 HS ?_;go_frame;refine oM 7 fun K hK=>?_;go_simp;refine (FW d i _ hd hi).mono ?_;rintro e w' ⟨rfl,rfl⟩;refine hK _ _ (.inr HS.o) ?_;refine oM 13 fun K hK=>?_;go_simp;refine (FW n i _ hn hi).mono ?_;rintro e w' ⟨rfl,rfl⟩;refine hK _ _ (.inr HS.o) ?_;refine tM 14 HS ?_;go_frame;refine tM 15 HS ?_;go_frame;have f0:wd.frozen? ⟨c,0,yO⟩=false:=HO.o.fz 0;have e0:wd.cell? ⟨c,0,yO⟩=yP (yE yI d):=HO.o.na.c0;refine oM 16 fun K hK=>?_;go_simp;refine hK _ _ aX ?_;have fV:=HO.o.data (cut d i);generalize wd.setCell _ _=w2 at *;refine fF 17 aX (h:=?_);go_frame;refine fF 18 (.inl (by kernel_rfl)) (h:=?_);go_frame;have f1:w2.frozen? ⟨c,1,yO⟩=false:=fV.1.fz 1;have e1:w2.cell? ⟨c,1,yO⟩=yP (yE yI n):=fV.1.na.c1;refine oM 19 fun K hK=>?_;go_simp;refine hK _ _ (.inl (by kernel_rfl)) ?_;have fE:=fV.1.nodes (cut n i);generalize w2.setCell _ _=w3 at *;refine uX (by kernel_rfl) ?_ _;have HN:=yN (yd fE.1 ((HD.o.trans fV.2).trans fE.2));go_wp2;go_end0;exact⟨rfl,⟨_,_,_,_,by rw [show put P i yO=P by rw [← hP];exact J2 P i,show put Q i yO=Q by rw [← hQ];exact J2 Q i];exact HN.o.1,GG bd hi,GG bn hi⟩,HN.o.2⟩
theorem aPO (B c i:Nat) (P:Nat→Option Pr) (Q:Nat→Option Nat) (p:Pr) (w:World) (h:xL B w c P Q) (hi:i<32) (hP:P i=yP p) (hQ:Q i=yO) :
  Calls yM 356 #[yB (yP ⟨c,0,yO⟩),yE yH i] w fun e w'=>e = .returned (.tuple #[])∧xL B w' c (put P i yO) (put Q i yO)∧Below B w w':=by
 obtain⟨d,n,pv,kv,dB,bd,bn⟩:=h;have hd:=bd.1;have hn:=bn.1;have td:d.testBit i=true:=by rw [bd.2 i hi,hP];rfl
 have tn:n.testBit i=false:=by rw [bn.2 i hi,hQ];rfl
 obtain⟨-,c0,c1,c2,c3,c4,o5,c5⟩:=id dB.na;have pE:=GF bd hi hP;go_enter func356,ntmps356;go_wp2_with fail;refine (qI d i _ hd hi).mono ?_;rintro e w' ⟨rfl,rfl⟩;rw [td];go_wp2_with fail;refine (xB d i _ hd hi).mono ?_;rintro e w' ⟨rfl,q,rfl⟩;have LV:=A7 (n:=q) dB;have HBq:Below B w (w.drewN q):=iC (yk B w) q;obtain⟨-,c0,c1,c2,c3,c4,o5,c5⟩:=id LV.na;have HO:=yN LV;have YT:=yN HBq;obtain⟨m,hm⟩:∃ m,(aT P).length=m+1:=⟨(aT P).length-1,by omega⟩;have hlen:=aH2 bd;rw [hm] at HO;generalize w.drewN q=wq at *;go_wp2_with fail;rw [aFU _ (Nat.lt_of_le_of_lt (GP i d) (by omega))];refine (aXS B m _ _ _ _ HO.o.2.2.1 (by omega) (by have:=qH P;omega) (nQ _)).mono ?_;rintro e w2 ⟨v',rfl,hv,ho,hg⟩;have fV:=HO.o.pairs hg ho;have hb2:w2.heap[c]?=yP (yL #[yE yI d,yE yI n,pv,kv,yD false,yB yO] 410 (0,0)):=by
  rw [hg.block c HO.o.lt (fun e=>HO.o.IP e.symm)];exact HO.o.1
 have f2:w2.frozen? ⟨c,2,yO⟩=false:=aU hb2;have e0:w2.cell? ⟨c,0,yO⟩=yP (yE yI d):=aG hb2 rfl;have e1:w2.cell? ⟨c,1,yO⟩=yP (yE yI n):=aG hb2 rfl;have e2:w2.cell? ⟨c,2,yO⟩=yP pv:=aG hb2 rfl;have e3:w2.cell? ⟨c,3,yO⟩=yP kv:=aG hb2 rfl;have dN:=yN fV;have hl:=bW ho;obtain⟨a',p',rfl⟩:=hl;go_wp2_with fail;have dB:=dN.o.1;have HB:=yN (YT.o.trans dN.o.2);generalize w2.setCell _ _=w1 at *;refine (qI n i _ hn hi).mono ?_;rintro e w' ⟨rfl,rfl⟩;rw [tn];obtain⟨-,c0,c1,c2,c3,c4,o5,c5⟩:=id dB.na;go_wp2_with fail;have HO:Hid (ON B w1.drew c d n _ _ _ _ _ _ _):=yN dB;have HD:Hid (Below B w w1.drew):=yN (ym HB.o);refine cP (fun W:World=>W.cell? ⟨c,0,yO⟩=yP (yE yI d)∧W.cell? ⟨c,1,yO⟩=yP (yE yI n)) 16 20 ⟨dB.na.c0,dB.na.c1⟩ fun HS=>?_;generalize w1.drew=wd at *;refine tM 0 HS ?_;refine tM 1 HS ?_;refine tM 2 HS ?_;refine tM 3 HS ?_;refine tM 4 HS ?_;refine lM 5 HS ?_;refine tM 6 HS ?_;refine tM 8 HS ?_;refine tM 9 HS ?_;refine tM 10 HS ?_;refine lM 11 HS ?_;refine tM 12 HS ?_;go_frame;refine oM 7 fun K hK=>?_;go_simp;refine (FW d i _ hd hi).mono ?_;rintro e w' ⟨rfl,rfl⟩;refine hK _ _ (.inr HS.o) ?_;refine oM 13 fun K hK=>?_;go_simp;refine (FW n i _ hn hi).mono ?_;rintro e w' ⟨rfl,rfl⟩;refine hK _ _ (.inr HS.o) ?_;refine tM 14 HS ?_;go_frame;refine tM 15 HS ?_;go_frame;have f0:wd.frozen? ⟨c,0,yO⟩=false:=HO.o.fz 0;have e0:wd.cell? ⟨c,0,yO⟩=yP (yE yI d):=HO.o.na.c0;refine oM 16 fun K hK=>?_;go_simp;refine hK _ _ aX ?_;have fV:=HO.o.data (cut d i);generalize wd.setCell _ _=w2 at *;refine fF 17 aX (h:=?_);go_frame;refine fF 18 (.inl (by kernel_rfl)) (h:=?_);go_frame;have f1:w2.frozen? ⟨c,1,yO⟩=false:=fV.1.fz 1;have e1:w2.cell? ⟨c,1,yO⟩=yP (yE yI n):=fV.1.na.c1;refine oM 19 fun K hK=>?_;go_simp;refine hK _ _ (.inl (by kernel_rfl)) ?_;have fE:=fV.1.nodes (cut n i);generalize w2.setCell _ _=w3 at *;refine uX (by kernel_rfl) ?_ _;have HN:=yN (yd fE.1 ((HD.o.trans fV.2).trans fE.2));go_wp2;go_end0
 exact⟨rfl,⟨_,_,_,_,by
  have e1:=aH4 bd hi hP;have e2:(aT (put P i yO)).length=m:=by rw [e1,yy,ze,zg];omega
  have:=HN.o.1;rw [show ones i d*2=ones i d*2 from rfl,FY,JQ,← lH,← e1] at this
  rw [e2,show put Q i yO=Q by rw [← hQ];exact J2 Q i];exact this,GG bd hi,GG bn hi⟩,HN.o.2⟩
theorem aPT (B c i:Nat) (P:Nat→Option Pr) (Q:Nat→Option Nat) (k:Nat) (w:World) (h:xL B w c P Q) (hi:i<32) (hP:P i=yO) (hQ:Q i=yP k) :
  Calls yM 356 #[yB (yP ⟨c,0,yO⟩),yE yH i] w fun e w'=>e = .returned (.tuple #[])∧xL B w' c (put P i yO) (put Q i yO)∧Below B w w':=by
 obtain⟨d,n,pv,kv,dB,bd,bn⟩:=h;have hd:=bd.1;have hn:=bn.1;have td:d.testBit i=false:=by rw [bd.2 i hi,hP];rfl
 have tn:n.testBit i=true:=by rw [bn.2 i hi,hQ];rfl
 obtain⟨-,c0,c1,c2,c3,c4,o5,c5⟩:=id dB.na;have pE:=GF bn hi hQ;go_enter func356,ntmps356;go_wp2_with fail;refine (qI d i _ hd hi).mono ?_;rintro e w' ⟨rfl,rfl⟩;rw [td];go_wp2_with fail;refine (qI n i _ hn hi).mono ?_;rintro e w' ⟨rfl,rfl⟩;rw [tn];go_wp2_with fail;refine (xB n i _ hn hi).mono ?_;rintro e w' ⟨rfl,q,rfl⟩;have LV:=A7 (n:=q) dB;have HBq:Below B w (w.drewN q):=iC (yk B w) q;obtain⟨-,c0,c1,c2,c3,c4,o5,c5⟩:=id LV.na;have HO:=yN LV;have YT:=yN HBq;obtain⟨m,hm⟩:∃ m,(aT Q).length=m+1:=⟨(aT Q).length-1,by omega⟩;have hlen:=aH2 bn;rw [hm] at HO;generalize w.drewN q=wq at *;go_wp2_with fail;rw [aFU _ (Nat.lt_of_le_of_lt (GP i n) (by omega))];refine (aXT B m _ _ _ _ HO.o.2.2.2 (by omega) (by have:=qH Q;omega) (RA _)).mono ?_;rintro e w2 ⟨v',rfl,hv,ho,hg⟩;have fV:=HO.o.kids hg ho;have hb2:w2.heap[c]?=yP (yL #[yE yI d,yE yI n,pv,kv,yD false,yB yO] 410 (0,0)):=by
  rw [hg.block c HO.o.lt (fun e=>HO.o.IQ e.symm)];exact HO.o.1
 have f2:w2.frozen? ⟨c,3,yO⟩=false:=aU hb2;have e0:w2.cell? ⟨c,0,yO⟩=yP (yE yI d):=aG hb2 rfl;have e1:w2.cell? ⟨c,1,yO⟩=yP (yE yI n):=aG hb2 rfl;have e2:w2.cell? ⟨c,2,yO⟩=yP pv:=aG hb2 rfl;have e3:w2.cell? ⟨c,3,yO⟩=yP kv:=aG hb2 rfl;have dN:=yN fV;have hl:=bW ho;obtain⟨a',p',rfl⟩:=hl;go_wp2_with fail;have dB:=dN.o.1;have HB:=yN (YT.o.trans dN.o.2);generalize w2.setCell _ _=w1 at *;obtain⟨-,c0,c1,c2,c3,c4,o5,c5⟩:=id dB.na;have HO:Hid (ON B w1.drew c d n _ _ _ _ _ _ _):=yN dB;have HD:Hid (Below B w w1.drew):=yN (ym HB.o);refine cP (fun W:World=>W.cell? ⟨c,0,yO⟩=yP (yE yI d)∧W.cell? ⟨c,1,yO⟩=yP (yE yI n)) 16 20 ⟨dB.na.c0,dB.na.c1⟩ fun HS=>?_;generalize w1.drew=wd at *;refine tM 0 HS ?_;refine tM 1 HS ?_;refine tM 2 HS ?_;refine tM 3 HS ?_;refine tM 4 HS ?_;refine lM 5 HS ?_;refine tM 6 HS ?_;refine tM 8 HS ?_;refine tM 9 HS ?_;refine tM 10 HS ?_;refine lM 11 HS ?_;refine tM 12 HS ?_;go_frame;refine oM 7 fun K hK=>?_;go_simp;refine (FW d i _ hd hi).mono ?_;rintro e w' ⟨rfl,rfl⟩;refine hK _ _ (.inr HS.o) ?_;refine oM 13 fun K hK=>?_;go_simp;refine (FW n i _ hn hi).mono ?_;rintro e w' ⟨rfl,rfl⟩;refine hK _ _ (.inr HS.o) ?_;refine tM 14 HS ?_;go_frame;refine tM 15 HS ?_;go_frame;have f0:wd.frozen? ⟨c,0,yO⟩=false:=HO.o.fz 0;have e0:wd.cell? ⟨c,0,yO⟩=yP (yE yI d):=HO.o.na.c0;refine oM 16 fun K hK=>?_;go_simp;refine hK _ _ aX ?_;have fV:=HO.o.data (cut d i);generalize wd.setCell _ _=w2 at *;refine fF 17 aX (h:=?_);go_frame;refine fF 18 (.inl (by kernel_rfl)) (h:=?_);go_frame;have f1:w2.frozen? ⟨c,1,yO⟩=false:=fV.1.fz 1;have e1:w2.cell? ⟨c,1,yO⟩=yP (yE yI n):=fV.1.na.c1;refine oM 19 fun K hK=>?_;go_simp;refine hK _ _ (.inl (by kernel_rfl)) ?_;have fE:=fV.1.nodes (cut n i);generalize w2.setCell _ _=w3 at *;refine uX (by kernel_rfl) ?_ _;have HN:=yN (yd fE.1 ((HD.o.trans fV.2).trans fE.2));go_wp2;go_end0
 exact⟨rfl,⟨_,_,_,_,by
  have e1:=aH4 bn hi hQ;have e2:(aT (put Q i yO)).length=m:=by rw [e1,yy,ze,zg];omega
  have:=HN.o.1;rw [Nat.mul_one,Nat.mul_one,← List.map_take,← List.map_drop,← List.map_append,← e1] at this
  rw [e2,show put P i yO=P by rw [← hP];exact J2 P i];exact this,GG bd hi,GG bn hi⟩,HN.o.2⟩
theorem U1 (B c i:Nat) (P:Nat→Option Pr) (Q:Nat→Option Nat) (w:World) (h:xL B w c P Q) (hd:sD P Q) (hi:i<32) :
  Calls yM 356 #[yB (yP ⟨c,0,yO⟩),yE yH i] w fun e w'=>e = .returned (.tuple #[])∧xL B w' c (put P i yO) (put Q i yO)∧Below B w w':=by
 cases hP:P i with
 | some p=>exact aPO B c i P Q p w h hi hP (hd i p hP)
 | none=>
  cases hQ:Q i with
  | some k=>exact aPT B c i P Q k w h hi hP hQ
  | none=>exact aPN B c i P Q w h hi hP hQ
end
section
variable {cs:List Value} {v:Value} {e:TypeId} {k g cap i r q:Nat} {Q:Nat→Option Nat} {P:Nat→Option Pr} {p:Pr} {l:List Pr} {w' w1:World}
theorem dH {w:World} {B:Nat} {n:Nat} (h:w.ownsRow B e k v n cs):Rd w v n cs:=by
 rcases h.2 with ⟨rfl,rfl⟩ | ⟨g,cap,cur,rfl,hb,hh,h1,h2,h3,h4⟩
 ·exact .inl ⟨yO,0,rfl,by unfold maxLen;omega,rfl,by have:=h.1;simpa using this⟩
 by_cases hn:n=0
 ·subst hn;exact .inl ⟨_,cap,rfl,h2,rfl,by have:=h.1;simpa using this⟩
 refine .inr ⟨g,0,cap,rfl,h1,h2,by omega,fun j u hj=>?_⟩;rw [Nat.zero_add];refine aG hh ?_;rw [← h4,List.getElem?_take] at hj
 split at hj
 ·exact hj
 cases hj
theorem DN {B:Nat} {w:World} {c:Nat} (h:xL B w c P Q):NS w c P Q:=
 let ⟨d,n,pv,kv,dB,bd,bn⟩:=h;⟨d,n,pv,kv,dB.na,bd,bn,dH dB.2.2.1,dH dB.2.2.2⟩
theorem KS (b:Nat) (P:Nat→Option Pr) (Q:Nat→Option Nat) (w:World) (h:NS w b P Q) :
  Calls yM 353 #[yB (yP ⟨b,0,yO⟩),yB yO] w fun e w'=>∃ c,e = .returned (yB (yP ⟨c,0,yO⟩))∧xL w.heap.size w' c P Q∧Kept w w':=by
 obtain⟨d,n,pv,kv,h0,h1,h2,h3,h4⟩:=h;refine (aIA b d n _ _ pv kv false _ _ w h0 h3 h4 (lG _) (by simp) (by have:=qH P;omega) (by have:=qH Q;omega) (nQ _) (RA _)).mono ?_;rintro e w' ⟨c,pD,bX,rfl,ho,hk⟩;exact⟨c,rfl,⟨d,n,pD,bX,ho,h1,h2⟩,hk⟩
theorem yR {w:World} {B:Nat} {n:Nat} {ys:List Value} (h:w.ownsRow B e k (yC (yP ⟨g,0,yO⟩) n cap) n cs) (hi:i<n) (hy:ys.length=k) :
  (w.setCells g (i*k) ys).ownsRow B e k (yC (yP ⟨g,0,yO⟩) n cap) n (cs.take (i*k)++(ys++cs.drop ((i+1)*k))):=by
 have hl:=h.1;have hk:(i+1)*k≤n*k:=Nat.mul_le_mul_right _ hi;have dJ:(i+1)*k=i*k+k:=by rw [Nat.add_mul,Nat.one_mul]
 have hik:i*k≤n*k:=Nat.mul_le_mul_right _ (Nat.le_of_lt hi);refine⟨by rw [yy,ze,yy,zg,hl,hy,Nat.min_eq_left hik];omega,.inr ?_⟩;rcases h.2 with ⟨h1,_⟩ | ⟨g',cap',cur,e1,hb,hh,h1,h2,h3,h4⟩
 ·cases h1
 cases e1;have hc:n*k≤cur.toList.length:=by rw [Array.length_toList,h3];exact Nat.mul_le_mul_right _ h1
 refine⟨g,cap,_,rfl,hb,mF ys _ _ _ hh,h1,h2,by simp [jW,h3],?_⟩;rw [List.toList_toArray,qF _ _ _ (by omega),hy,← h4,List.take_append,List.take_append,ze,List.take_take,List.drop_take,hy,dJ];rw [Nat.min_eq_left (by omega:i*k≤cur.toList.length),Nat.min_eq_right (by omega:i*k≤n*k),List.take_take,Nat.min_eq_left hik];rw [List.take_of_length_le (by omega:ys.length≤n*k-i*k),show n*k-(i*k+k)=n*k-i*k-k by omega]
theorem aFV (h:r<l.length):aK (l.set r p)=(aK l).take (r*2)++([yA p.1,yA p.2]++(aK l).drop ((r+1)*2)):=by
 rw [FY,JQ,List.set_eq_take_append_cons_drop,if_pos h,lH];rfl
theorem a0G {l:List Nat} (h:r<l.length):(l.set r q).map ptr=(l.map ptr).take r++([ptr q]++(l.map ptr).drop ((r+1)*1)):=by
 rw [Nat.mul_one,List.set_eq_take_append_cons_drop,if_pos h,List.map_append,List.map_take,List.map_cons,List.map_drop];rfl
theorem gU {w:World} {B:Nat} {n j:Nat} {u:Value} (h:w.ownsRow B e k (yC (yP ⟨g,0,yO⟩) n cap) n cs) (hj:cs[j]?=yP u):w.cell? ⟨g,j,yO⟩=yP u:=by
 rcases dH h with ⟨a,cap',e1,_,rfl,rfl⟩ | ⟨g',off,cap',e1,_,_,_,hc⟩
 ·cases hj
 cases e1;have:=hc j u hj
 rwa [Nat.zero_add] at this
theorem yS (h:l[i]?=yP p):(aK l)[i*2]?=yP (yA p.1)∧(aK l)[i*2+1]?=yP (yA p.2):=by
 have:=JT h;rw [Nat.mul_comm] at this;exact this
theorem aFW {α:Type} {x:Nat} {P:Nat→Option α} (h:Bits x P) {q p:α} (hP:P i=yP q):Bits x (put P i (yP p)):=by
 refine⟨h.1,fun j hj=>?_⟩;rw [h.2 j hj];by_cases e:j=i;·subst e;rw [vA,hP];rfl
 rw [oV _ _ e]
theorem eG {w:World} {r:Option Nat} (hg:w.grownBy w' r) {p:Addr} (h:w.cell? p=yP v) (hr:yP p.block≠r):w'.cell? p=yP v:=by
 have hl:=mU h;unfold World.cell? at *;rw [hg.block _ hl hr];exact h
theorem ON.kept {B:Nat} {w:World} {c d n:Nat} {pv kv:Value} {bk:Bool} {np nk:Nat} {ps ks:List Value} (h:ON B w c d n pv kv bk np nk ps ks) (hk:Kept w w'):ON B w' c d n pv kv bk np nk ps ks:=
 ⟨(hk.block c h.lt).trans h.1,h.2.1,bT h.2.2.1 hk,bT h.2.2.2 hk⟩
theorem KT {w:World} {B:Nat} {n:Nat} (h:w.ownsRow B e k v n cs) (hg:w.heap.size≤g):v.ownBlock≠yP g:=fun e'=>by
 obtain⟨cur,hc⟩:=dX h e';have:=(yo.1 hc).1;omega
theorem aIB (h:sD P Q) (hq:Q i=yP q):P i=yO:=by
 cases e:P i with
 | none=>rfl
 | some p=>rw [h i p e] at hq;cases hq
theorem GH {α:Type} {P:Nat→Option α} (h:P i=yO):put P i yO=P:=by rw [← h];exact J2 P i
section
variable {B:Nat} {w:World} {c d n:Nat} {pv kv:Value} {bk:Bool} {np nk:Nat} {ps ks:List Value}
theorem ON.a7D (h:ON B w c d n pv kv bk np nk ps ks) (hg:w.grownBy w1 pv.ownBlock) {MX:List Value} (ho:w1.ownsRow B 52 2 pv np MX):ON B w1 c d n pv kv bk np nk MX ks∧Below B w w1:=by
 have h1:w1.heap[c]?=yP (yL #[yE yI d,yE yI n,pv,kv,yD bk,yB yO] 410 (0,0)):=by rw [hg.block c h.lt (fun e=>h.IP e.symm)];exact h.1
 refine⟨⟨h1,h.2.1,ho,cF h.2.2.2 fun g cS=>?_⟩,F8 h.2.2.1 hg h.le⟩;obtain⟨cur,hc⟩:=dX h.2.2.2 cS;exact hg.block g (yo.1 hc).1 (fun e=>fR h.2.2.1 hc (by decide) e.symm)
theorem ON.a7E (h:ON B w c d n pv kv bk np nk ps ks) (hg:w.grownBy w1 kv.ownBlock) {lV:List Value} (ho:w1.ownsRow B 176 1 kv nk lV):ON B w1 c d n pv kv bk np nk ps lV∧Below B w w1:=by
 have h1:w1.heap[c]?=yP (yL #[yE yI d,yE yI n,pv,kv,yD bk,yB yO] 410 (0,0)):=by rw [hg.block c h.lt (fun e=>h.IQ e.symm)];exact h.1
 refine⟨⟨h1,h.2.1,cF h.2.2.1 fun g cS=>?_,ho⟩,F8 h.2.2.2 hg h.le⟩;obtain⟨cur,hc⟩:=dX h.2.2.1 cS;exact hg.block g (yo.1 hc).1 (fun e=>fR h.2.2.2 hc (by decide) e.symm)
end
theorem aUK (b i:Nat) (P:Nat→Option Pr) (Q:Nat→Option Nat) (w:World) (h:NS w b P Q) (hd:sD P Q) (hi:i<32) :
  Calls yM 301 #[yB (yP ⟨b,0,yO⟩),yB yO,yE yH i] w fun e w'=>∃ c,e = .returned (yB (yP ⟨c,0,yO⟩))∧NS w' c (put P i yO) (put Q i yO)∧Kept w w':=by
 have HN:=yN h;have HD:=yN hd;obtain⟨d,n,pv,kv,h0,h1,h2,h3,h4⟩:=h;go_enter func301,ntmps301
 go_wp2_with (first
  | (go_at_call 355;refine (J5 _ _ _ _ _ _ _ h0 hi).mono ?_;rintro e w' ⟨rfl,rfl⟩;clear h0)
  | (go_at_call 353;refine (KS b P Q _ HN.o).mono ?_;rintro e w1 ⟨c,rfl,ho,hk⟩;have HO:=yN ho;have HK:=yN hk;clear ho hk)
  | (go_at_call 356;refine (U1 _ c i P Q _ HO.o HD.o hi).mono ?_;rintro e w2 ⟨rfl,ho,hk⟩;have dZ:=yN ho;have aH:=yN (yn HK.o hk);clear ho hk))
 all_goals go_ret
 exact⟨c,rfl,DN dZ.o,aH.o⟩
theorem aP7 (b i:Nat) (p:Pr) (P:Nat→Option Pr) (Q:Nat→Option Nat) (w:World) (h:NS w b P Q) (pA:sD P Q) (hi:i<32) (q:Pr) (hP:P i=yP q) :
  Calls yM 295 #[yB (yP ⟨b,0,yO⟩),yB yO,yE yH i,yF #[yA p.1,yA p.2]] w fun e w'=>∃ c,e = .returned (yB (yP ⟨c,0,yO⟩))∧NS w' c (put P i (yP p)) (put Q i yO)∧Kept w w':=by
 go_enter func295,ntmps295;go_wp2_with fail;have bF:=aZ w (yL #[yA p.1,yA p.2] 52);have hb0:=bM w (yL #[yA p.1,yA p.2] 52);have h:=h.kept bF;have bG:=yN bF;have gI:=yN hb0;generalize kU:w.heap.size=pb at *;generalize w.alloc _=w0 at *;have H:=yN h;have h0:=h.choose_spec.choose_spec.choose_spec.choose_spec.1;refine (J5 _ _ _ i _ _ _ h0 hi).mono ?_;rintro e w' ⟨rfl,rfl⟩;go_wp2_with fail;refine (KS b P Q _ H.o).mono ?_;rintro e w1 ⟨c,rfl,ho,hk⟩;obtain⟨d,n,pv,kv,dB,bd,bn⟩:=ho;have cG:=bd.1;have zP:=bn.1;have aJ:=yN (aB bG.o hk);have b0:w1.cell? ⟨pb,0,yO⟩=yP (yA p.1):=hk.cell (aG gI.o rfl);have b1:w1.cell? ⟨pb,1,yO⟩=yP (yA p.2):=hk.cell (aG gI.o rfl);have HO:=yN dB;have t0:d.testBit i=true:=by rw [bd.2 i hi,hP];rfl
 obtain⟨-,c0,c1,c2,c3,c4,o5,c5⟩:=id dB.na;go_wp2_with fail;refine (qI d i _ cG hi).mono ?_;rintro e w' ⟨rfl,rfl⟩;rw [t0];go_wp2_with fail;have pE:=GF bd hi hP;obtain⟨g,cap,iE,hsv⟩:∃ g cap,(aT P).length≤cap∧pv=yC (yP ⟨g,0,yO⟩) (aT P).length cap:=by
  rcases HO.o.2.2.1.2 with ⟨_,e⟩ | ⟨g,cap,cur,e,_,_,e1,_⟩
  ·omega
  exact⟨g,cap,e1,e⟩
 subst hsv;have LW:=qH P;have HS:Hid ((fun W:World=>W.cell? ⟨c,2,yO⟩=yP (yC (yP ⟨g,0,yO⟩) (aT P).length cap)∧W.cell? ⟨c,0,yO⟩=yP (yE yI d)∧W.cell? ⟨pb,0,yO⟩=yP (yA p.1)∧W.cell? ⟨pb,1,yO⟩=yP (yA p.2)) w1.drew):=yN ⟨c2,c0,b0,b1⟩;have bZ:Hid (ON _ w1.drew c d n _ _ _ _ _ _ _):=yN HO.o;have aP:Hid (Kept w w1.drew):=yN (ym aJ.o);refine IM (fun W:World=>W.cell? ⟨c,2,yO⟩=yP (yC (yP ⟨g,0,yO⟩) (aT P).length cap)∧W.cell? ⟨c,0,yO⟩=yP (yE yI d)∧W.cell? ⟨pb,0,yO⟩=yP (yA p.1)∧W.cell? ⟨pb,1,yO⟩=yP (yA p.2)) 14 15 ?_;generalize w1.drew=wd at *;refine tM 0 HS ?_;refine tM 1 HS ?_;refine tM 2 HS ?_;refine tM 3 HS ?_;refine lM 4 HS ?_;refine tM 5 HS ?_;refine tM 6 HS ?_;refine tM 7 HS ?_;refine tM 8 HS ?_;go_frame;refine lM 9 HS ?_;go_frame;refine tM 10 HS ?_;go_frame;refine lM 12 HS ?_;go_frame;refine oM 11 fun K hK=>?_;go_simp;refine (xB d i _ cG hi).mono ?_;rintro e w' ⟨rfl,q',rfl⟩;refine hK _ _ (.inr HS.o) ?_;have kV:=yN (A7 (n:=q') bZ.o);have iF:Hid (Kept w (wd.drewN q')):=yN (iC aP.o q');have M0:Hid ((fun W:World=>W.cell? ⟨c,2,yO⟩=yP (yC (yP ⟨g,0,yO⟩) (aT P).length cap)∧W.cell? ⟨c,0,yO⟩=yP (yE yI d)∧W.cell? ⟨pb,0,yO⟩=yP (yA p.1)∧W.cell? ⟨pb,1,yO⟩=yP (yA p.2)) (wd.drewN q')):=yN HS.o;generalize wd.drewN q'=wq at *;have DY:((ones i d:Nat):Int)<(((aT P).length:Nat):Int):=by omega
 refine tM 13 M0 ?_;go_frame;have hat:=DI bd hi hP;have e0:=gU kV.o.2.2.1 (yS hat).1;have e1:=gU kV.o.2.2.1 (yS hat).2;have f0:wq.frozen? ⟨g,ones i d*2,yO⟩=false:=let ⟨_,hh⟩:=dX kV.o.2.2.1 rfl;aU hh;have f1:wq.frozen? ⟨g,ones i d*2+1,yO⟩=false:=let ⟨_,hh⟩:=dX kV.o.2.2.1 rfl;aU hh;refine oM 14 fun K hK=>?_;go_simp;refine hK _ _ (.inl (by kernel_rfl)) ?_;have hrow:=yR kV.o.2.2.1 pE (ys:=[yA p.1,yA p.2]) rfl;have hN:=kV.o.a7D (eU g _ _ wq) hrow;have HNN:=yN hN.1;have cJ:=yN (yn iF.o (Below.mono hN.2 bG.o.size));refine uX (by kernel_rfl) ?_ _;go_wp2;go_ret
 exact⟨c,rfl,DN ⟨d,n,_,_,by
  rw [aH3 bd hi hP,aFV pE,List.length_set,GH (pA i q hP)]
  exact HNN.o,aFW bd hP,by rw [GH (pA i q hP)];exact bn⟩,cJ.o⟩
theorem aQ6 (b i:Nat) (p:Pr) (P:Nat→Option Pr) (Q:Nat→Option Nat) (w:World) (h:NS w b P Q) (pA:sD P Q) (hi:i<32) (hP:P i=yO) :
  Calls yM 295 #[yB (yP ⟨b,0,yO⟩),yB yO,yE yH i,yF #[yA p.1,yA p.2]] w fun e w'=>∃ c,e = .returned (yB (yP ⟨c,0,yO⟩))∧NS w' c (put P i (yP p)) (put Q i yO)∧Kept w w':=by
 go_enter func295,ntmps295;go_wp2_with fail;have bF:Kept w (w.alloc (yL #[yA p.1,yA p.2] 52)):=(yk _ w).alloc (ye _) _;have hb0:=bM w (yL #[yA p.1,yA p.2] 52);have h:=h.kept bF;have bG:=yN bF;have gI:=yN hb0;generalize kU:w.heap.size=pb at *;generalize w.alloc _=w0 at *;clear bF hb0;have H:=yN h;have h0:=h.choose_spec.choose_spec.choose_spec.choose_spec.1;refine (J5 _ _ _ i _ _ _ h0 hi).mono ?_;rintro e w' ⟨rfl,rfl⟩;clear h h0;go_wp2_with fail;refine (KS b P Q _ H.o).mono ?_;rintro e w1 ⟨c,rfl,ho,hk⟩;obtain⟨d,n,pv,kv,dB,bd,bn⟩:=ho;have cG:=bd.1;have zP:=bn.1;have aJ:=yN (aB bG.o hk);have b0:w1.cell? ⟨pb,0,yO⟩=yP (yA p.1):=hk.cell (aG gI.o rfl);have b1:w1.cell? ⟨pb,1,yO⟩=yP (yA p.2):=hk.cell (aG gI.o rfl);have HO:=yN dB;have t0:d.testBit i=false:=by rw [bd.2 i hi,hP];rfl
 obtain⟨-,c0,c1,c2,c3,c4,o5,c5⟩:=id dB.na;clear dB hk;go_wp2_with fail;refine (qI d i _ cG hi).mono ?_;rintro e w' ⟨rfl,rfl⟩;rw [t0];go_wp2_with fail;refine (U1 _ c i P Q _ ⟨d,n,pv,kv,HO.o,bd,bn⟩ pA hi).mono ?_;rintro e w2 ⟨rfl,ho,hk2⟩;obtain⟨d2,n2,vO,vP,zC,vQ,vR⟩:=ho;rw [GH hP] at vQ zC;have iR:=vQ.1;have LX:=vR.1;have aH:=yN (yn aJ.o (Below.mono hk2 bG.o.size));have hpl:pb<w0.heap.size:=(yo.1 gI.o).1;have b0:=(Below.cell hk2 (p:=⟨pb,0,yO⟩) hpl).trans b0;have b1:=(Below.cell hk2 (p:=⟨pb,1,yO⟩) hpl).trans b1;have dZ:=yN zC;have eB:w0.heap.size≤w2.heap.size:=zC.le;clear c0 c1 c2 c3 c4 c5 hk2;obtain⟨-,c0,c1,c2,c3,c4,o5',c5⟩:=id zC.na;clear zC;go_wp2_with fail;have pE:=aEL vQ hi;have LW:=qH P;have HS:Hid ((fun W:World=>W.cell? ⟨c,2,yO⟩=yP vO∧W.cell? ⟨c,0,yO⟩=yP (yE yI d2)∧W.cell? ⟨pb,0,yO⟩=yP (yA p.1)∧W.cell? ⟨pb,1,yO⟩=yP (yA p.2)) w2.drew):=yN ⟨c2,c0,b0,b1⟩;have bZ:Hid (ON w0.heap.size w2.drew c d2 n2 _ _ _ _ _ _ _):=yN dZ.o;have aP:Hid (Kept w w2.drew):=yN (ym aH.o);have j6:w0.heap.size≤w2.drew.heap.size:=eB;clear c0 c1 c2 c3 c4 c5 b0 b1 dZ aH eB;refine JP (fun W:World=>W.cell? ⟨c,2,yO⟩=yP vO∧W.cell? ⟨c,0,yO⟩=yP (yE yI d2)∧W.cell? ⟨pb,0,yO⟩=yP (yA p.1)∧W.cell? ⟨pb,1,yO⟩=yP (yA p.2)) 19 20 (by kernel_rfl) (by kernel_rfl) ?_;generalize w2.drew=wd at *;refine tM 0 HS ?_;go_frame;refine tM 1 HS ?_;go_frame;refine tM 2 HS ?_;go_frame;refine tM 3 HS ?_;go_frame;refine tM 4 HS ?_;go_frame;refine lM 5 HS ?_;go_frame;refine tM 6 HS ?_;go_frame;refine tM 7 HS ?_;go_frame;refine tM 8 HS ?_;go_frame;refine tM 9 HS ?_;go_frame;refine lM 10 HS ?_;go_frame;refine tM 11 HS ?_;go_frame;refine lM 13 HS ?_;go_frame;refine QX (x:=12) (y:=14) (by kernel_rfl) rfl rfl (fun K hK=>?_) (fun K hK=>?_)
 ·go_simp;refine (xB d2 i _ iR hi).mono ?_;rintro e w' ⟨rfl,q',rfl⟩;have aF:Hid ((fun W:World=>W.cell? ⟨c,2,yO⟩=yP vO∧W.cell? ⟨c,0,yO⟩=yP (yE yI d2)∧W.cell? ⟨pb,0,yO⟩=yP (yA p.1)∧W.cell? ⟨pb,1,yO⟩=yP (yA p.2)) (wd.drewN q')):=yN HS.o;have pF:=yN (A7 (n:=q') bZ.o);have eX:Hid (Kept w (wd.drewN q')):=yN (iC aP.o q');have pG:w0.heap.size≤(wd.drewN q').heap.size:=j6;refine hK _ _ (.inr aF.o) ?_;clear hK K HS bZ aP j6;generalize wd.drewN q'=wq at *;have HS:=aF;have bZ:=pF;have aP:=eX;have j6:=pG;clear aF pF eX pG;refine oM 14 fun K hK=>?_;go_simp;have aA:Kept wq (wq.alloc (yL #[yA p.1,yA p.2] 52)):=(yk _ _).alloc (ye _) _;have s1:=aA.cell (HS.o.1);have s2:=aA.cell (HS.o.2.1);have s3:=aA.cell (HS.o.2.2.1);have s4:=aA.cell (HS.o.2.2.2);have aF:Hid ((fun W:World=>W.cell? ⟨c,2,yO⟩=yP vO∧W.cell? ⟨c,0,yO⟩=yP (yE yI d2)∧W.cell? ⟨pb,0,yO⟩=yP (yA p.1)∧W.cell? ⟨pb,1,yO⟩=yP (yA p.2)) (wq.alloc (yL #[yA p.1,yA p.2] 52))):=yN ⟨s1,s2,s3,s4⟩;clear s1 s2 s3 s4;have pF:=yN (bZ.o.kept aA);have eX:Hid (Kept w (wq.alloc (yL #[yA p.1,yA p.2] 52))):=yN (aB aP.o aA);have pG:w0.heap.size≤(wq.alloc (yL #[yA p.1,yA p.2] 52)).heap.size:=yf j6 aA.size;have iG:=yN (bM wq (yL #[yA p.1,yA p.2] 52));have iM:=KT bZ.o.2.2.1 (ye wq.heap.size);refine hK _ _ (.inr aF.o) ?_;clear hK K HS bZ aP j6 aA;generalize wq.alloc _=wv at *;generalize wq.heap.size=vb at *;have HS:=aF;have bZ:=pF;have aP:=eX;have j6:=pG;clear aF pF eX pG;refine oM 15 fun K hK=>?_;go_simp;refine (aG1 w0.heap.size _ _ vb _ _ [yA p.1,yA p.2] 52 _ bZ.o.2.2.1 j6 pE (by omega) rfl iG.o iM (by intro u hu;simp at hu;rcases hu with rfl | rfl <;> rfl) (nQ _)).mono ?_;rintro e w3 ⟨v',rfl,ho,hg⟩;have kW:=fun e=>bZ.o.IP (Eq.symm e);have M3:yP pb≠vO.ownBlock:=fun e=>by have:=(bZ.o.2.2.1.lt pb e.symm).1;omega
  have s1:=eG hg (HS.o.1) kW;have s2:=eG hg (HS.o.2.1) kW;have s3:=eG hg (HS.o.2.2.1) M3;have s4:=eG hg (HS.o.2.2.2) M3;have aF:=yN (yd s1 (yd s2 (yd s3 s4)));clear s1 s2 s3 s4;refine hK _ _ (.inr aF.o) ?_;have fE:=bZ.o.pairs hg ho;have hb3:=(hg.block c bZ.o.lt kW).trans bZ.o.1;have eA:=yN fE.1;have aL:=yN (yn aP.o (Below.mono fE.2 bG.o.size));have f3:w3.frozen? ⟨c,2,yO⟩=false:=aU hb3;have e3:w3.cell? ⟨c,2,yO⟩=yP vO:=aG hb3 rfl;obtain⟨av,cv,rfl⟩:=bW ho;clear hK K HS bZ aP j6 hg ho fE kW hb3;refine tM 16 aF ?_;go_frame;refine tM 17 aF ?_;go_frame;refine tM 18 aF ?_;go_frame;refine oM 19 fun K hK=>?_;go_simp;refine hK _ _ (.inl (by kernel_rfl)) ?_;clear hK K e3 f3 aF;refine uX (by kernel_rfl) ?_ _;generalize w3.setCell _ _=w4 at *;obtain⟨-,c0,c1,c2,c3,c4,o6,c5⟩:=id eA.o.na;have f4:w4.frozen? ⟨c,0,yO⟩=false:=eA.o.fz 0;go_wp2_with fail;refine (Q9 d2 i _ iR hi).mono ?_;rintro e w' ⟨rfl,rfl⟩;go_wp2;go_ret;have HF:=yN (eA.o.data (d2 ||| 2 ^ i))
  exact⟨c,rfl,DN ⟨_,_,_,_,by
   rw [show aT (put P i (yP p))=(aT P).take (ones i d2)++p::(aT P).drop (ones i d2) from RP vQ hi hP];have:=HF.o.1;rw [FY,JQ] at this;rw [lH,yy,ze,zh,zg,show min (ones i d2) (aT P).length+((aT P).length-ones i d2+1)=(aT P).length+1 by omega]
   exact this,QY vQ hi p,vR⟩,yn aL.o (Below.mono HF.o.2 bG.o.size)⟩
 go_simp;have aA:Kept wd (wd.alloc (yL #[yA p.1,yA p.2] 52)):=(yk _ _).alloc (ye _) _;have s1:=aA.cell (HS.o.1);have s2:=aA.cell (HS.o.2.1);have s3:=aA.cell (HS.o.2.2.1);have s4:=aA.cell (HS.o.2.2.2);have aF:Hid ((fun W:World=>W.cell? ⟨c,2,yO⟩=yP vO∧W.cell? ⟨c,0,yO⟩=yP (yE yI d2)∧W.cell? ⟨pb,0,yO⟩=yP (yA p.1)∧W.cell? ⟨pb,1,yO⟩=yP (yA p.2)) (wd.alloc (yL #[yA p.1,yA p.2] 52))):=yN ⟨s1,s2,s3,s4⟩;clear s1 s2 s3 s4;have pF:=yN (bZ.o.kept aA);have eX:Hid (Kept w (wd.alloc (yL #[yA p.1,yA p.2] 52))):=yN (aB aP.o aA);have pG:w0.heap.size≤(wd.alloc (yL #[yA p.1,yA p.2] 52)).heap.size:=yf j6 aA.size;have iG:=yN (bM wd (yL #[yA p.1,yA p.2] 52));have iM:=KT bZ.o.2.2.1 (ye wd.heap.size);refine hK _ _ (.inr aF.o) ?_;clear hK K HS bZ aP j6 aA;generalize wd.alloc _=wq at *;generalize wd.heap.size=vb at *;have HS:=aF;have bZ:=pF;have aP:=eX;have j6:=pG;clear aF pF eX pG;refine oM 12 fun K hK=>?_;go_simp;refine (xB d2 i _ iR hi).mono ?_;rintro e w' ⟨rfl,q',rfl⟩;have aF:Hid ((fun W:World=>W.cell? ⟨c,2,yO⟩=yP vO∧W.cell? ⟨c,0,yO⟩=yP (yE yI d2)∧W.cell? ⟨pb,0,yO⟩=yP (yA p.1)∧W.cell? ⟨pb,1,yO⟩=yP (yA p.2)) (wq.drewN q')):=yN HS.o;have pF:=yN (A7 (n:=q') bZ.o);have eX:Hid (Kept w (wq.drewN q')):=yN (iC aP.o q');have pG:w0.heap.size≤(wq.drewN q').heap.size:=j6;refine hK _ _ (.inr aF.o) ?_;have sH:Hid ((wq.drewN q').heap[vb]?=_):=yN iG.o;clear iG;have iG:=sH;clear sH;clear hK K HS bZ aP j6;generalize wq.drewN q'=wv at *;have HS:=aF;have bZ:=pF;have aP:=eX;have j6:=pG;clear aF pF eX pG;refine oM 15 fun K hK=>?_;go_simp;refine (aG1 w0.heap.size _ _ vb _ _ [yA p.1,yA p.2] 52 _ bZ.o.2.2.1 j6 pE (by omega) rfl iG.o iM (by intro u hu;simp at hu;rcases hu with rfl | rfl <;> rfl) (nQ _)).mono ?_;rintro e w3 ⟨v',rfl,ho,hg⟩;have kW:=fun e=>bZ.o.IP (Eq.symm e);have M3:yP pb≠vO.ownBlock:=fun e=>by have:=(bZ.o.2.2.1.lt pb e.symm).1;omega
 have s1:=eG hg (HS.o.1) kW;have s2:=eG hg (HS.o.2.1) kW;have s3:=eG hg (HS.o.2.2.1) M3;have s4:=eG hg (HS.o.2.2.2) M3;have aF:=yN (yd s1 (yd s2 (yd s3 s4)));clear s1 s2 s3 s4;refine hK _ _ (.inr aF.o) ?_;have fE:=bZ.o.pairs hg ho;have hb3:=(hg.block c bZ.o.lt kW).trans bZ.o.1;have eA:=yN fE.1;have aL:=yN (yn aP.o (Below.mono fE.2 bG.o.size));have f3:w3.frozen? ⟨c,2,yO⟩=false:=aU hb3;have e3:w3.cell? ⟨c,2,yO⟩=yP vO:=aG hb3 rfl;obtain⟨av,cv,rfl⟩:=bW ho;clear hK K HS bZ aP j6 hg ho fE kW hb3;refine tM 16 aF ?_;go_frame;refine tM 17 aF ?_;go_frame;refine tM 18 aF ?_;go_frame;refine oM 19 fun K hK=>?_;go_simp;refine hK _ _ (.inl (by kernel_rfl)) ?_;clear hK K e3 f3 aF;refine uX (by kernel_rfl) ?_ _;generalize w3.setCell _ _=w4 at *;obtain⟨-,c0,c1,c2,c3,c4,o6,c5⟩:=id eA.o.na;have f4:w4.frozen? ⟨c,0,yO⟩=false:=eA.o.fz 0;go_wp2_with fail;refine (Q9 d2 i _ iR hi).mono ?_;rintro e w' ⟨rfl,rfl⟩;go_wp2;go_ret;have HF:=yN (eA.o.data (d2 ||| 2 ^ i))
 exact⟨c,rfl,DN ⟨_,_,_,_,by
  rw [show aT (put P i (yP p))=(aT P).take (ones i d2)++p::(aT P).drop (ones i d2) from RP vQ hi hP];have:=HF.o.1;rw [FY,JQ] at this;rw [lH,yy,ze,zh,zg,show min (ones i d2) (aT P).length+((aT P).length-ones i d2+1)=(aT P).length+1 by omega]
  exact this,QY vQ hi p,vR⟩,yn aL.o (Below.mono HF.o.2 bG.o.size)⟩
theorem aQJ (b i:Nat) (k:Nat) (P:Nat→Option Pr) (Q:Nat→Option Nat) (w:World) (h:NS w b P Q) (pA:sD P Q) (hi:i<32) (q:Nat) (hQ:Q i=yP q) :
  Calls yM 296 #[yB (yP ⟨b,0,yO⟩),yB yO,yE yH i,yB (yP ⟨k,0,yO⟩)] w fun e w'=>∃ c,e = .returned (yB (yP ⟨c,0,yO⟩))∧NS w' c (put P i yO) (put Q i (yP k))∧Kept w w':=by
 have bG:Hid (Kept w w):=yN (yk _ w);have H:=yN h;obtain⟨_,_,_,_,h0,_⟩:=h;have hno:∀ i q,Q i=yP q→P i=yO:=fun i q hq=>aIB pA hq;go_enter func296,ntmps296;go_wp2_with fail;refine (J5 _ _ _ i _ _ _ h0 hi).mono ?_;rintro e w' ⟨rfl,rfl⟩;go_wp2_with fail;refine (KS b P Q _ H.o).mono ?_;rintro e w1 ⟨c,rfl,ho,hk⟩;obtain⟨d,n,pv,kv,dB,bd,bn⟩:=ho;have cG:=bd.1;have zP:=bn.1;have aJ:=yN (aB bG.o hk);have HO:=yN dB;have t0:n.testBit i=true:=by rw [bn.2 i hi,hQ];rfl
 obtain⟨-,c0,c1,c2,c3,c4,o5,c5⟩:=id dB.na;go_wp2_with fail;refine (qI n i _ zP hi).mono ?_;rintro e w' ⟨rfl,rfl⟩;rw [t0];go_wp2_with fail;have pE:=GF bn hi hQ;obtain⟨g,cap,iE,hsv⟩:∃ g cap,(aT Q).length≤cap∧kv=yC (yP ⟨g,0,yO⟩) (aT Q).length cap:=by
  rcases HO.o.2.2.2.2 with ⟨_,e⟩ | ⟨g,cap,cur,e,_,_,e1,_⟩
  ·omega
  exact⟨g,cap,e1,e⟩
 subst hsv;have LW:=qH Q;have bZ:Hid (ON _ w1.drew c d n _ _ _ _ _ _ _):=yN HO.o;have aP:Hid (Kept w w1.drew):=yN (ym aJ.o);refine cP (fun W:World=>W.cell? ⟨c,3,yO⟩=yP (yC (yP ⟨g,0,yO⟩) (aT Q).length cap)∧W.cell? ⟨c,1,yO⟩=yP (yE yI n)) 14 15 ⟨c3,c1⟩ fun HS=>?_;generalize w1.drew=wd at *;refine tM 0 HS ?_;refine tM 1 HS ?_;refine tM 2 HS ?_;refine tM 3 HS ?_;refine lM 4 HS ?_;refine tM 5 HS ?_;refine tM 6 HS ?_;refine tM 7 HS ?_;refine tM 8 HS ?_;go_frame;refine lM 9 HS ?_;go_frame;refine tM 10 HS ?_;go_frame;refine tM 12 HS ?_;go_frame;refine oM 11 fun K hK=>?_;go_simp;refine (xB n i _ zP hi).mono ?_;rintro e w' ⟨rfl,q',rfl⟩;refine hK _ _ (.inr HS.o) ?_;have kV:=yN (A7 (n:=q') bZ.o);have iF:Hid (Kept w (wd.drewN q')):=yN (iC aP.o q');have M0:Hid ((fun W:World=>W.cell? ⟨c,3,yO⟩=yP (yC (yP ⟨g,0,yO⟩) (aT Q).length cap)∧W.cell? ⟨c,1,yO⟩=yP (yE yI n)) (wd.drewN q')):=yN HS.o;generalize wd.drewN q'=wq at *;have DY:((ones i n:Nat):Int)<(((aT Q).length:Nat):Int):=by omega
 refine tM 13 M0 ?_;go_frame;have hat:=DI bn hi hQ;have e0:=gU kV.o.2.2.2 (show ((aT Q).map ptr)[ones i n]?=_ by rw [List.getElem?_map,hat];rfl);have f0:wq.frozen? ⟨g,ones i n,yO⟩=false:=let ⟨_,hh⟩:=dX kV.o.2.2.2 rfl;aU hh;refine oM 14 fun K hK=>?_;go_simp;refine hK _ _ (.inl (by kernel_rfl)) ?_;have hrow:=yR kV.o.2.2.2 pE (ys:=[ptr k]) rfl;rw [show ones i n*1=ones i n from Nat.mul_one _] at hrow;have hN:=kV.o.a7E (eU g _ _ wq) hrow;have HNN:=yN hN.1;have cJ:=yN (yn iF.o (Below.mono hN.2 bG.o.size));refine uX (by kernel_rfl) ?_ _;go_wp2;go_ret
 exact⟨c,rfl,DN ⟨d,n,_,_,by
  rw [aH3 bn hi hQ,a0G pE,List.length_set,GH (hno i q hQ)]
  exact HNN.o,by rw [GH (hno i q hQ)];exact bd,aFW bn hQ⟩,cJ.o⟩
theorem aSC (b i:Nat) (k:Nat) (P:Nat→Option Pr) (Q:Nat→Option Nat) (w:World) (h:NS w b P Q) (pA:sD P Q) (hi:i<32) (hQ:Q i=yO) :
  Calls yM 296 #[yB (yP ⟨b,0,yO⟩),yB yO,yE yH i,yB (yP ⟨k,0,yO⟩)] w fun e w'=>∃ c,e = .returned (yB (yP ⟨c,0,yO⟩))∧NS w' c (put P i yO) (put Q i (yP k))∧Kept w w':=by
 have bG:Hid (Kept w w):=yN (yk _ w);have H:=yN h;obtain⟨_,_,_,_,h0,_⟩:=h;have hno:∀ i q,Q i=yP q→P i=yO:=fun i q hq=>aIB pA hq;go_enter func296,ntmps296;go_wp2_with fail;refine (J5 _ _ _ i _ _ _ h0 hi).mono ?_;rintro e w' ⟨rfl,rfl⟩;clear h0;go_wp2_with fail;refine (KS b P Q _ H.o).mono ?_;rintro e w1 ⟨c,rfl,ho,hk⟩;obtain⟨d,n,pv,kv,dB,bd,bn⟩:=ho;have cG:=bd.1;have zP:=bn.1;have aJ:=yN (aB bG.o hk);have HO:=yN dB;have t0:n.testBit i=false:=by rw [bn.2 i hi,hQ];rfl
 obtain⟨-,c0,c1,c2,c3,c4,o5,c5⟩:=id dB.na;clear dB hk;go_wp2_with fail;refine (qI n i _ zP hi).mono ?_;rintro e w' ⟨rfl,rfl⟩;rw [t0];go_wp2_with fail;refine (U1 _ c i P Q _ ⟨d,n,pv,kv,HO.o,bd,bn⟩ pA hi).mono ?_;rintro e w2 ⟨rfl,ho,hk2⟩;obtain⟨d2,n2,vO,vP,zC,vQ,vR⟩:=ho;rw [GH hQ] at vR zC;have iR:=vQ.1;have LX:=vR.1;have aH:=yN (yn aJ.o (Below.mono hk2 bG.o.size));have dZ:=yN zC;have eB:w.heap.size≤w2.heap.size:=zC.le;clear c0 c1 c2 c3 c4 c5 hk2;obtain⟨-,c0,c1,c2,c3,c4,o5',c5⟩:=id zC.na;clear zC;go_wp2_with fail;have pE:=aEL vR hi;have LW:=qH Q;have HS:Hid ((fun W:World=>W.cell? ⟨c,3,yO⟩=yP vP∧W.cell? ⟨c,1,yO⟩=yP (yE yI n2)) w2.drew):=yN ⟨c3,c1⟩;have bZ:Hid (ON w.heap.size w2.drew c d2 n2 _ _ _ _ _ _ _):=yN dZ.o;have aP:Hid (Kept w w2.drew):=yN (ym aH.o);have j6:w.heap.size≤w2.drew.heap.size:=eB;clear c0 c1 c2 c3 c4 c5  dZ aH eB;refine JP (fun W:World=>W.cell? ⟨c,3,yO⟩=yP vP∧W.cell? ⟨c,1,yO⟩=yP (yE yI n2)) 19 20 (by kernel_rfl) (by kernel_rfl) ?_;generalize w2.drew=wd at *;refine tM 0 HS ?_;go_frame;refine tM 1 HS ?_;go_frame;refine tM 2 HS ?_;go_frame;refine tM 3 HS ?_;go_frame;refine tM 4 HS ?_;go_frame;refine lM 5 HS ?_;go_frame;refine tM 6 HS ?_;go_frame;refine tM 7 HS ?_;go_frame;refine tM 8 HS ?_;go_frame;refine tM 9 HS ?_;go_frame;refine lM 10 HS ?_;go_frame;refine tM 11 HS ?_;go_frame;refine tM 13 HS ?_;go_frame;refine QX (x:=12) (y:=14) (by kernel_rfl) rfl rfl (fun K hK=>?_) (fun K hK=>?_)
 ·go_simp;refine (xB n2 i _ LX hi).mono ?_;rintro e w' ⟨rfl,q',rfl⟩;have aF:Hid ((fun W:World=>W.cell? ⟨c,3,yO⟩=yP vP∧W.cell? ⟨c,1,yO⟩=yP (yE yI n2)) (wd.drewN q')):=yN HS.o;have pF:=yN (A7 (n:=q') bZ.o);have eX:Hid (Kept w (wd.drewN q')):=yN (iC aP.o q');have pG:w.heap.size≤(wd.drewN q').heap.size:=j6;refine hK _ _ (.inr aF.o) ?_;clear hK K HS bZ aP j6;generalize wd.drewN q'=wq at *;have HS:=aF;have bZ:=pF;have aP:=eX;have j6:=pG;clear aF pF eX pG;refine oM 14 fun K hK=>?_;go_simp;have aA:Kept wq (wq.alloc (yL #[yB (yP ⟨k,0,yO⟩)] 176)):=(yk _ _).alloc (ye _) _;have s1:=aA.cell (HS.o.1);have s2:=aA.cell (HS.o.2);have aF:Hid ((fun W:World=>W.cell? ⟨c,3,yO⟩=yP vP∧W.cell? ⟨c,1,yO⟩=yP (yE yI n2)) (wq.alloc (yL #[yB (yP ⟨k,0,yO⟩)] 176))):=yN ⟨s1,s2⟩;clear s1 s2;have pF:=yN (bZ.o.kept aA);have eX:Hid (Kept w (wq.alloc (yL #[yB (yP ⟨k,0,yO⟩)] 176))):=yN (aB aP.o aA);have pG:w.heap.size≤(wq.alloc (yL #[yB (yP ⟨k,0,yO⟩)] 176)).heap.size:=yf j6 aA.size;have iG:=yN (bM wq (yL #[yB (yP ⟨k,0,yO⟩)] 176));have iM:=KT bZ.o.2.2.2 (ye wq.heap.size);refine hK _ _ (.inr aF.o) ?_;clear hK K HS bZ aP j6 aA;generalize wq.alloc _=wv at *;generalize wq.heap.size=vb at *;have HS:=aF;have bZ:=pF;have aP:=eX;have j6:=pG;clear aF pF eX pG;refine oM 15 fun K hK=>?_;go_simp;refine (aG2 w.heap.size _ _ vb _ _ [ptr k] 176 _ bZ.o.2.2.2 j6 pE (by omega) rfl iG.o iM (by intro u hu;simp at hu;subst hu;rfl) (RA _)).mono ?_;rintro e w3 ⟨v',rfl,ho,hg⟩;have kW:=fun e=>bZ.o.IQ (Eq.symm e);have s1:=eG hg (HS.o.1) kW;have s2:=eG hg (HS.o.2) kW;have aF:=yN (yd s1 s2);clear s1 s2;refine hK _ _ (.inr aF.o) ?_;have fE:=bZ.o.kids hg ho;have hb3:=(hg.block c bZ.o.lt kW).trans bZ.o.1;have eA:=yN fE.1;have aL:=yN (yn aP.o (Below.mono fE.2 bG.o.size));have f3:w3.frozen? ⟨c,3,yO⟩=false:=aU hb3;have e3:w3.cell? ⟨c,3,yO⟩=yP vP:=aG hb3 rfl;obtain⟨av,cv,rfl⟩:=bW ho;clear hK K HS bZ aP j6 hg ho fE kW hb3;refine tM 16 aF ?_;go_frame;refine tM 17 aF ?_;go_frame;refine tM 18 aF ?_;go_frame;refine oM 19 fun K hK=>?_;go_simp;refine hK _ _ (.inl (by kernel_rfl)) ?_;clear hK K e3 f3 aF;refine uX (by kernel_rfl) ?_ _;generalize w3.setCell _ _=w4 at *;obtain⟨-,c0,c1,c2,c3,c4,o6,c5⟩:=id eA.o.na;have f4:w4.frozen? ⟨c,1,yO⟩=false:=eA.o.fz 1;go_wp2_with fail;refine (Q9 n2 i _ LX hi).mono ?_;rintro e w' ⟨rfl,rfl⟩;go_wp2;go_ret;have HF:=yN (eA.o.nodes (n2 ||| 2 ^ i))
  exact⟨c,rfl,DN ⟨_,_,_,_,by
   rw [show aT (put Q i (yP k))=(aT Q).take (ones i n2)++k::(aT Q).drop (ones i n2) from RP vR hi hQ];have:=HF.o.1;rw [Nat.mul_one] at this;rw [List.map_append,List.map_cons,List.map_take,List.map_drop,yy,ze,zh,zg,show min (ones i n2) (aT Q).length+((aT Q).length-ones i n2+1)=(aT Q).length+1 by omega]
   exact this,vQ,QY vR hi k⟩,yn aL.o (Below.mono HF.o.2 bG.o.size)⟩
 go_simp;have aA:Kept wd (wd.alloc (yL #[yB (yP ⟨k,0,yO⟩)] 176)):=(yk _ _).alloc (ye _) _;have s1:=aA.cell (HS.o.1);have s2:=aA.cell (HS.o.2);have aF:Hid ((fun W:World=>W.cell? ⟨c,3,yO⟩=yP vP∧W.cell? ⟨c,1,yO⟩=yP (yE yI n2)) (wd.alloc (yL #[yB (yP ⟨k,0,yO⟩)] 176))):=yN ⟨s1,s2⟩;clear s1 s2;have pF:=yN (bZ.o.kept aA);have eX:Hid (Kept w (wd.alloc (yL #[yB (yP ⟨k,0,yO⟩)] 176))):=yN (aB aP.o aA);have pG:w.heap.size≤(wd.alloc (yL #[yB (yP ⟨k,0,yO⟩)] 176)).heap.size:=yf j6 aA.size;have iG:=yN (bM wd (yL #[yB (yP ⟨k,0,yO⟩)] 176));have iM:=KT bZ.o.2.2.2 (ye wd.heap.size);refine hK _ _ (.inr aF.o) ?_;clear hK K HS bZ aP j6 aA;generalize wd.alloc _=wq at *;generalize wd.heap.size=vb at *;have HS:=aF;have bZ:=pF;have aP:=eX;have j6:=pG;clear aF pF eX pG;refine oM 12 fun K hK=>?_;go_simp;refine (xB n2 i _ LX hi).mono ?_;rintro e w' ⟨rfl,q',rfl⟩;have aF:Hid ((fun W:World=>W.cell? ⟨c,3,yO⟩=yP vP∧W.cell? ⟨c,1,yO⟩=yP (yE yI n2)) (wq.drewN q')):=yN HS.o;have pF:=yN (A7 (n:=q') bZ.o);have eX:Hid (Kept w (wq.drewN q')):=yN (iC aP.o q');have pG:w.heap.size≤(wq.drewN q').heap.size:=j6;refine hK _ _ (.inr aF.o) ?_;have sH:Hid ((wq.drewN q').heap[vb]?=_):=yN iG.o;clear iG;have iG:=sH;clear sH;clear hK K HS bZ aP j6;generalize wq.drewN q'=wv at *;have HS:=aF;have bZ:=pF;have aP:=eX;have j6:=pG;clear aF pF eX pG;refine oM 15 fun K hK=>?_;go_simp;refine (aG2 w.heap.size _ _ vb _ _ [ptr k] 176 _ bZ.o.2.2.2 j6 pE (by omega) rfl iG.o iM (by intro u hu;simp at hu;subst hu;rfl) (RA _)).mono ?_;rintro e w3 ⟨v',rfl,ho,hg⟩;have kW:=fun e=>bZ.o.IQ (Eq.symm e);have s1:=eG hg (HS.o.1) kW;have s2:=eG hg (HS.o.2) kW;have aF:=yN (yd s1 s2);clear s1 s2;refine hK _ _ (.inr aF.o) ?_;have fE:=bZ.o.kids hg ho;have hb3:=(hg.block c bZ.o.lt kW).trans bZ.o.1;have eA:=yN fE.1;have aL:=yN (yn aP.o (Below.mono fE.2 bG.o.size));have f3:w3.frozen? ⟨c,3,yO⟩=false:=aU hb3;have e3:w3.cell? ⟨c,3,yO⟩=yP vP:=aG hb3 rfl;obtain⟨av,cv,rfl⟩:=bW ho;clear hK K HS bZ aP j6 hg ho fE kW hb3;refine tM 16 aF ?_;go_frame;refine tM 17 aF ?_;go_frame;refine tM 18 aF ?_;go_frame;refine oM 19 fun K hK=>?_;go_simp;refine hK _ _ (.inl (by kernel_rfl)) ?_;clear hK K e3 f3 aF;refine uX (by kernel_rfl) ?_ _;generalize w3.setCell _ _=w4 at *;obtain⟨-,c0,c1,c2,c3,c4,o6,c5⟩:=id eA.o.na;have f4:w4.frozen? ⟨c,1,yO⟩=false:=eA.o.fz 1;go_wp2_with fail;refine (Q9 n2 i _ LX hi).mono ?_;rintro e w' ⟨rfl,rfl⟩;go_wp2;go_ret;have HF:=yN (eA.o.nodes (n2 ||| 2 ^ i))
 exact⟨c,rfl,DN ⟨_,_,_,_,by
  rw [show aT (put Q i (yP k))=(aT Q).take (ones i n2)++k::(aT Q).drop (ones i n2) from RP vR hi hQ];have:=HF.o.1;rw [Nat.mul_one] at this;rw [List.map_append,List.map_cons,List.map_take,List.map_drop,yy,ze,zh,zg,show min (ones i n2) (aT Q).length+((aT Q).length-ones i n2+1)=(aT Q).length+1 by omega]
  exact this,vQ,QY vR hi k⟩,yn aL.o (Below.mono HF.o.2 bG.o.size)⟩
theorem CX (b i:Nat) (p:Pr) (P:Nat→Option Pr) (Q:Nat→Option Nat) (w:World) (h:NS w b P Q) (pA:sD P Q) (hi:i<32) :
  Calls yM 295 #[yB (yP ⟨b,0,yO⟩),yB yO,yE yH i,yF #[yA p.1,yA p.2]] w fun e w'=>∃ c,e = .returned (yB (yP ⟨c,0,yO⟩))∧NS w' c (put P i (yP p)) (put Q i yO)∧Kept w w':=by
 cases hP:P i with
 | some q=>exact aP7 b i p P Q w h pA hi q hP
 | none=>exact aQ6 b i p P Q w h pA hi hP
theorem FZ (b i k:Nat) (P:Nat→Option Pr) (Q:Nat→Option Nat) (w:World) (h:NS w b P Q) (pA:sD P Q) (hi:i<32) :
  Calls yM 296 #[yB (yP ⟨b,0,yO⟩),yB yO,yE yH i,yB (yP ⟨k,0,yO⟩)] w fun e w'=>∃ c,e = .returned (yB (yP ⟨c,0,yO⟩))∧NS w' c (put P i yO) (put Q i (yP k))∧Kept w w':=by
 cases hQ:Q i with
 | some q=>exact aQJ b i k P Q w h pA hi q hQ
 | none=>exact aSC b i k P Q w h pA hi hQ
end
section
section
variable {P:Program} {fn:Func} {p:Tmp} {ty:TypeId} {tmps:Array Value} {w:World} {g:Nat} {t:TypeId} {cs:Array Value} {fr:Nat × Nat} {d:TypeDesc}
theorem eQ (h:fn.results=#[.cell p ty]) (hp:tmps.getD p undef=yB (yP ⟨g,0,yO⟩)) (hg:w.heap[g]?=yP (yL cs t fr))
  (hu:P.underlying ty=yP d) (hd:(match d with | .struct _ | .array _ _=>true | _=>false)=true) (hi:(P.info? ty).map (·.size)=yP cs.size):(results fn tmps).run P w = .ok (.agg cs) w:=
 results_cell_row h tmps w g t cs fr d hp hg hu hd hi
theorem fK {u:Tmp} (h:fn.results=#[.cell p ty,.tmp u]) (hp:tmps.getD p undef=yB (yP ⟨g,0,yO⟩)) (hg:w.heap[g]?=yP (yL cs t fr))
  (hu:P.underlying ty=yP d) (hd:(match d with | .struct _ | .array _ _=>true | _=>false)=true) (hi:(P.info? ty).map (·.size)=yP cs.size):(results fn tmps).run P w = .ok (.tuple #[.agg cs,tmps.getD u undef]) w:=by
 rw [results_cell_tmp h,hp];simp [asAddr,run_loadVar_row w g t ty cs fr d hg hu hd hi]
theorem VD {u x:Tmp} (h:fn.results=#[.cell p ty,.tmp u,.tmp x]) (hp:tmps.getD p undef=yB (yP ⟨g,0,yO⟩)) (hg:w.heap[g]?=yP (yL cs t fr))
  (hu:P.underlying ty=yP d) (hd:(match d with | .struct _ | .array _ _=>true | _=>false)=true) (hi:(P.info? ty).map (·.size)=yP cs.size):(results fn tmps).run P w = .ok (.tuple #[.agg cs,tmps.getD u undef,tmps.getD x undef]) w:=by
 have qQ:tmps[p]?.getD undef=yB (yP ⟨g,0,yO⟩):=by simpa using hp
 simp [results,h,qQ,asAddr,run_loadVar_row w g t ty cs fr d hg hu hd hi]
end
end
section
theorem JV (w:World):Calls yM 284 #[] w fun e w'=>∃ c,e = .returned (yB (yP ⟨c,0,yO⟩))∧NS w' c (fun _=>yO) (fun _=>yO)∧Kept w w':=by
 go_enter func284,ntmps284;go_wp2;go_ret;have hb:=bM w (yL #[yE yI 0,yE yI 0,yC yO 0 0,yC yO 0 0,yD false,yB yO] 410);refine⟨_,rfl,⟨0,0,yC yO 0 0,yC yO 0 0,⟨⟨⟨DJ _ _,DJ _ _⟩,_,_,hb⟩,aG hb rfl,aG hb rfl,aG hb rfl,aG hb rfl,aG hb rfl,_,aG hb rfl⟩,aFO,aFO,?_,?_⟩,(yk _ w).alloc (ye _) _⟩;·rw [aGS];exact .inl ⟨yO,0,rfl,by unfold maxLen;omega,rfl,rfl⟩
 rw [aGS];exact .inl ⟨yO,0,rfl,by unfold maxLen;omega,rfl,rfl⟩
theorem aE3 (w:World):Calls yM 360 #[] w fun e w'=>∃ c,e = .returned (yB (yP ⟨c,0,yO⟩))∧NB w' c []∧Kept w w':=by
 go_enter func360,ntmps360;go_wp2;go_ret;have hb:=bM w (yL #[yE yI 0,yE yI 0,yC yO 0 0,yC yO 0 0,yD true,yB yO] 410);exact⟨_,rfl,⟨yC yO 0 0,yC yO 0 0,⟨⟨⟨DJ _ _,DJ _ _⟩,_,_,hb⟩,aG hb rfl,aG hb rfl,aG hb rfl,aG hb rfl,aG hb rfl,_,aG hb rfl⟩,.inl ⟨yO,0,rfl,by unfold maxLen;omega,rfl,rfl⟩,.inl ⟨yO,0,rfl,by unfold maxLen;omega,rfl,rfl⟩⟩,(yk _ w).alloc (ye _) _⟩
theorem J6 (b d n np:Nat) (pv kv:Value) (bk:Bool) (ps:List Value) (w:World) (h:NA w b d n pv kv bk) (hp:Rd w pv np ps) (hl:ps.length=np*2) (hn:np≤1000000) (h1:∀ u∈ps,u.oneCell'=true) :
  Calls yM 263 #[yB (yP ⟨b,0,yO⟩)] w fun e w'=>∃ v,e = .returned v∧w'.ownsRow w.heap.size 52 2 v np ps∧Kept w w':=by
 have c2:=h.c2;obtain⟨a,cap,rfl⟩:=hp.shape;have HP:=yN hp;have H1:=yN h1;go_enter func263,ntmps263;go_wp2_with fail;refine (KF _ _ _ _ HP.o hl hn H1.o).mono ?_;rintro e w1 ⟨v,rfl,ho,hk⟩;have HO:=yN ho;have HK:=yN hk;go_wp2;go_ret;exact⟨v,rfl,HO.o,HK.o⟩
theorem aUL (w:World):Calls yM 263 #[yB yO] w fun e w'=>e = .returned (yC yO 0 0)∧w=w':=by
 go_enter func263,ntmps263;go_wp2;go_ret;exact⟨rfl,rfl⟩
theorem a0H (b d n nk:Nat) (pv kv:Value) (bk:Bool) (ks:List Value) (w:World) (h:NA w b d n pv kv bk) (hp:Rd w kv nk ks) (hl:ks.length=nk*1) (hn:nk≤1000000) (h1:∀ u∈ks,u.oneCell'=true) :
  Calls yM 337 #[yB (yP ⟨b,0,yO⟩)] w fun e w'=>∃ v,e = .returned v∧w'.ownsRow w.heap.size 176 1 v nk ks∧Kept w w':=by
 have c3:=h.c3;obtain⟨a,cap,rfl⟩:=hp.shape;have HP:=yN hp;have H1:=yN h1;go_enter func337,ntmps337;go_wp2_with fail;refine (aH7 _ _ _ _ HP.o hl hn H1.o).mono ?_;rintro e w1 ⟨v,rfl,ho,hk⟩;have HO:=yN ho;have HK:=yN hk;go_wp2;go_ret;exact⟨v,rfl,HO.o,HK.o⟩
theorem aXX (w:World):Calls yM 337 #[yB yO] w fun e w'=>e = .returned (yC yO 0 0)∧w=w':=by
 go_enter func337,ntmps337;go_wp2;go_ret;exact⟨rfl,rfl⟩
theorem aIY (b d n np nk:Nat) (pv kv:Value) (bk:Bool) (ps ks:List Value) (w:World) (h:NA w b d n pv kv bk) (hp:Rd w pv np ps) (hk:Rd w kv nk ks) (hn:np≤1000000) (j5:nk≤1000000) :
  Calls yM 362 #[yB (yP ⟨b,0,yO⟩)] w fun e w'=>e = .returned (yE yH ((np+nk:Nat):Int))∧∃ q,w'=w.drewN q:=by
 have c2:=h.c2;have c3:=h.c3;obtain⟨a,cap,rfl⟩:=hp.shape;obtain⟨a',cap',rfl⟩:=hk.shape;go_enter func362,ntmps362;go_wp2;go_region;go_wp2;go_ret;exact⟨gO (by omega),1,rfl⟩
theorem RB (b i:Nat) (P:Nat→Option Pr) (Q:Nat→Option Nat) (w:World) (h:NS w b P Q) (hi:i<32) (hP:P i=yO) :
  Calls yM 254 #[yB (yP ⟨b,0,yO⟩),yE yH i] w fun e w'=>e = .returned (.tuple #[yF #[yA yj,yA yj],yD false])∧Kept w w':=by
 obtain⟨d,n,pv,kv,h0,bd,bn,_,_⟩:=h;have hx:=bd.1;have t0:d.testBit i=false:=by rw [bd.2 i hi,hP];rfl
 go_enter func254,ntmps254;go_wp2_with fail;refine (aGZ _ _ _ _ _ _ _ (h0.kept (aZ w _))).mono ?_;rintro e w' ⟨rfl,rfl⟩;go_wp2_with fail;refine (qI d i _ hx hi).mono ?_;rintro e w' ⟨rfl,rfl⟩;rw [t0];go_wp2
 (try simp only [Exit.inBlock,Exit.then])
 refine bodyPost_ret (fK rfl rfl (bM w _) underlying52 rfl (by kernel_rfl)) rfl ?_;exact⟨rfl,(yk _ w).alloc (ye _) _⟩
theorem QZ (b i:Nat) (p:Pr) (P:Nat→Option Pr) (Q:Nat→Option Nat) (w:World) (h:NS w b P Q) (hi:i<32) (hP:P i=yP p) :
  Calls yM 254 #[yB (yP ⟨b,0,yO⟩),yE yH i] w fun e w'=>e = .returned (.tuple #[yF #[yA p.1,yA p.2],yD true])∧Kept w w':=by
 obtain⟨d,n,pv,kv,h0,bd,bn,hp,hk⟩:=h;have hx:=bd.1;have t0:d.testBit i=true:=by rw [bd.2 i hi,hP];rfl
 have pE:=GF bd hi hP;have hat:=DI bd hi hP;have LW:=qH P;obtain⟨g,off,cap,rfl,r1,r2,r3,fW⟩:∃ g off cap,pv=yC (yP ⟨g,off,yO⟩) (aT P).length cap∧(aT P).length≤cap∧cap≤maxLen∧0<(aT P).length∧∀ j u,(aK (aT P))[j]?=yP u→w.cell? ⟨g,off+j,yO⟩=yP u:=by
  rcases hp with ⟨_,_,_,_,e,_⟩ | h
  ·omega
  exact h
 have q0:=fW _ _ (yS hat).1;have q1:=fW _ _ (yS hat).2;have bF:=aZ w (yL #[yA ⟨#[]⟩,yA ⟨#[]⟩] 52);have hb0:=bM w (yL #[yA ⟨#[]⟩,yA ⟨#[]⟩] 52);go_enter func254,ntmps254;go_wp2_with fail;have h0:=h0.kept bF;have q0:=bF.cell q0;have q1:=bF.cell q1;have bG:=yN bF;have gI:=yN hb0;have aQ:w.heap.size≤w.heap.size:=ye _;generalize aKK:w.heap.size=rb at *;generalize w.alloc _=w0 at *;refine (aGZ _ _ _ _ _ _ _ h0).mono ?_;rintro e w' ⟨rfl,rfl⟩;go_wp2_with fail;refine (qI d i _ hx hi).mono ?_;rintro e w' ⟨rfl,rfl⟩;rw [t0];obtain⟨-,c0,c1,c2,c3,c4,o5,c5⟩:=id h0;go_wp2_with fail;have HS:Hid ((fun W:World=>W.cell? ⟨b,2,yO⟩=yP (yC (yP ⟨g,off,yO⟩) (aT P).length cap)∧W.cell? ⟨b,0,yO⟩=yP (yE yI d)∧W.cell? ⟨g,off+ones i d*2,yO⟩=yP (yA p.1)∧W.cell? ⟨g,off+ones i d*2+1,yO⟩=yP (yA p.2)) w0.drew):=yN ⟨c2,c0,q0,q1⟩;refine IM (fun W:World=>W.cell? ⟨b,2,yO⟩=yP (yC (yP ⟨g,off,yO⟩) (aT P).length cap)∧W.cell? ⟨b,0,yO⟩=yP (yE yI d)∧W.cell? ⟨g,off+ones i d*2,yO⟩=yP (yA p.1)∧W.cell? ⟨g,off+ones i d*2+1,yO⟩=yP (yA p.2)) 14 16 ?_;refine tM 0 HS ?_;refine tM 1 HS ?_;refine tM 2 HS ?_;refine tM 3 HS ?_;refine lM 4 HS ?_;refine tM 5 HS ?_;refine tM 6 HS ?_;refine tM 7 HS ?_;refine tM 8 HS ?_;go_frame;refine lM 9 HS ?_;go_frame;refine tM 10 HS ?_;go_frame;refine oM 11 fun K hK=>?_;go_simp;refine (xB d i _ hx hi).mono ?_;rintro e w' ⟨rfl,q',rfl⟩;have aF:Hid ((fun W:World=>W.cell? ⟨b,2,yO⟩=yP (yC (yP ⟨g,off,yO⟩) (aT P).length cap)∧W.cell? ⟨b,0,yO⟩=yP (yE yI d)∧W.cell? ⟨g,off+ones i d*2,yO⟩=yP (yA p.1)∧W.cell? ⟨g,off+ones i d*2+1,yO⟩=yP (yA p.2)) (w0.drew.drewN q')):=yN HS.o;refine hK _ _ (.inr aF.o) ?_;have DY:((ones i d:Nat):Int)<(((aT P).length:Nat):Int):=by omega
 have nY:Hid ((w0.drew.drewN q').heap[rb]?=_):=yN gI.o;have eX:Hid (Kept w (w0.drew.drewN q')):=yN (iC (ym bG.o) q');generalize w0.drew.drewN q'=w1 at *;refine tM 12 aF ?_;go_frame;refine lM 13 aF ?_;go_frame;have z0:w1.cell? ⟨rb,0,yO⟩=yP (yA ⟨#[]⟩):=aG nY.o rfl;have z1:w1.cell? ⟨rb,1,yO⟩=yP (yA ⟨#[]⟩):=aG nY.o rfl;have f0:w1.frozen? ⟨rb,0,yO⟩=false:=aU nY.o;have f1:w1.frozen? ⟨rb,1,yO⟩=false:=aU nY.o;refine oM 14 fun K hK=>?_;go_simp;refine hK _ _ aX ?_;refine oM 15 fun K hK=>?_;go_simp;refine hK _ _ aX ?_;refine cM ?_;go_wp2
 (try simp only [Exit.inBlock,Exit.then])
 refine bodyPost_ret (fK rfl rfl (heap_setCell (heap_setCell nY.o)) underlying52 rfl (by kernel_rfl)) rfl ?_;exact⟨rfl,Below.setCell (Below.setCell eX.o (yh aKK) _) (yh aKK) _⟩
theorem BF (b i:Nat) (P:Nat→Option Pr) (Q:Nat→Option Nat) (w:World) (h:NS w b P Q) (hi:i<32) (hP:Q i=yO) :
  Calls yM 255 #[yB (yP ⟨b,0,yO⟩),yE yH i] w fun e w'=>e = .returned (.tuple #[yB yO,yD false])∧Kept w w':=by
 obtain⟨d,n,pv,kv,h0,bd,bn,_,_⟩:=h;have hx:=bn.1;have t0:n.testBit i=false:=by rw [bn.2 i hi,hP];rfl
 go_enter func255,ntmps255;go_wp2_with fail;refine (QB _ _ _ _ _ _ _ h0).mono ?_;rintro e w' ⟨rfl,rfl⟩;go_wp2_with fail;refine (qI n i _ hx hi).mono ?_;rintro e w' ⟨rfl,rfl⟩;rw [t0];go_wp2;go_ret2;exact⟨rfl,yk _ w⟩
theorem BA (b i:Nat) (p:Nat) (P:Nat→Option Pr) (Q:Nat→Option Nat) (w:World) (h:NS w b P Q) (hi:i<32) (hP:Q i=yP p) :
  Calls yM 255 #[yB (yP ⟨b,0,yO⟩),yE yH i] w fun e w'=>e = .returned (.tuple #[yB (yP ⟨p,0,yO⟩),yD true])∧Kept w w':=by
 obtain⟨d,n,pv,kv,h0,bd,bn,hp,hk⟩:=h;have hx:=bn.1;have t0:n.testBit i=true:=by rw [bn.2 i hi,hP];rfl
 have pE:=GF bn hi hP;have hat:=DI bn hi hP;have LW:=qH Q;obtain⟨g,off,cap,rfl,r1,r2,r3,fW⟩:∃ g off cap,kv=yC (yP ⟨g,off,yO⟩) (aT Q).length cap∧(aT Q).length≤cap∧cap≤maxLen∧0<(aT Q).length∧∀ j u,((aT Q).map ptr)[j]?=yP u→w.cell? ⟨g,off+j,yO⟩=yP u:=by
  rcases hk with ⟨_,_,_,_,e,_⟩ | h
  ·omega
  exact h
 have q0:w.cell? ⟨g,off+ones i n,yO⟩=yP (yB (yP ⟨p,0,yO⟩)):=fW _ _ (show ((aT Q).map ptr)[ones i n]?=yP (ptr p) by rw [List.getElem?_map,hat];rfl);go_enter func255,ntmps255;go_wp2_with fail;refine (QB _ _ _ _ _ _ _ h0).mono ?_;rintro e w' ⟨rfl,rfl⟩;go_wp2_with fail;refine (qI n i _ hx hi).mono ?_;rintro e w' ⟨rfl,rfl⟩;rw [t0];obtain⟨-,c0,c1,c2,c3,c4,o5,c5⟩:=id h0;go_wp2_with fail;refine cP (fun W:World=>W.cell? ⟨b,3,yO⟩=yP (yC (yP ⟨g,off,yO⟩) (aT Q).length cap)∧W.cell? ⟨b,1,yO⟩=yP (yE yI n)∧W.cell? ⟨g,off+ones i n,yO⟩=yP (yB (yP ⟨p,0,yO⟩))) 15 16 ⟨c3,c1,q0⟩ fun HS=>?_;refine tM 0 HS ?_;refine tM 1 HS ?_;refine tM 2 HS ?_;refine tM 3 HS ?_;refine lM 4 HS ?_;refine tM 5 HS ?_;refine tM 6 HS ?_;refine tM 7 HS ?_;refine tM 8 HS ?_;refine lM 9 HS ?_;go_frame;refine tM 10 HS ?_;go_frame;refine oM 11 fun K hK=>?_;go_simp;refine (xB n i _ hx hi).mono ?_;rintro e w' ⟨rfl,q',rfl⟩;have aF:Hid ((fun W:World=>W.cell? ⟨b,3,yO⟩=yP (yC (yP ⟨g,off,yO⟩) (aT Q).length cap)∧W.cell? ⟨b,1,yO⟩=yP (yE yI n)∧W.cell? ⟨g,off+ones i n,yO⟩=yP (yB (yP ⟨p,0,yO⟩))) (w.drew.drewN q')):=yN HS.o;refine hK _ _ (.inr aF.o) ?_;have DY:((ones i n:Nat):Int)<(((aT Q).length:Nat):Int):=by omega
 have eX:Hid (Kept w (w.drew.drewN q')):=yN (iC (ym (yk _ w)) q');generalize w.drew.drewN q'=w1 at *;refine tM 12 aF ?_;refine lM 13 aF ?_;go_frame;refine tM 14 aF ?_;go_frame;refine oM 15 fun K hK=>?_;go_simp;refine hK _ _ (.inl (by kernel_rfl)) ?_;refine uX (by kernel_rfl) ?_ _;go_wp2;go_ret2;exact⟨rfl,eX.o⟩
end
end Go.Proofs.YtcldomgdkhenpaaGreat
