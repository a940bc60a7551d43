/- Lemmas. -/
import Derived.Test.YtcldomgdkhenpaaGreatProg
import Derived.Test.YtcldomgdkhenpaaGreatJ03
import Derived.Conc.LoneCalls
import Derived.Conc.LoneSelect
import Derived.Conc.LoneSelectN
set_option linter.unusedVariables false
set_option maxRecDepth 1000000
set_option maxHeartbeats 40000000
open Go.Proofs.Tryz
open Go.Proofs.Tryz renaming prog → yM
open Go.Value renaming pointer → yB,bool → yD,int → yE,agg → yF
open Go.IntKind renaming i64 → yH
open Go.Obj renaming cells → yL
open Option renaming none → yO,some → yP
open Array renaming getElem?_eq_some_iff → yo
open Go.RowKit.Below renaming heap_setCell → yl,refl → yk
open Nat renaming le_refl → ye,le_trans → yf,lt_of_lt_of_le → yi
open Go.RowKit
namespace Go.Proofs.YtcldomgdkhenpaaGreat.Tok
section
open Go.Conc
variable {i b:Nat} {t:TypeId} {cs:Array Value} {w a:World} {S:List Nat}
def num (n:Nat):Value:=yE yH n
def a6W (c:Nat):Obj:=yL #[.chan (yP c)] 191
def xH (l:List Nat):Array Value:=(l.map num).toArray
def a6X (k:Nat) (ids:List Nat) (s r:Nat):Obj:=.chan k (xH ids) false s r false
theorem aWR (l:List Nat):(xH l).size=l.length:=by simp [xH]
theorem aWS (l:List Nat) (n:Nat):(xH l).push (yE yH n)=xH (l ++ [n]):=by simp [xH,num]
theorem a2B {v:Value} (h:w.heap[b]?=yP (yL cs t)) (hv:cs[i]?=yP v):w.cell? ⟨b,i,yO⟩=yP v:=by
 simp [World.cell?,h,hv]
structure Ch (S:List Nat) (w w':World):Prop where
 os:w'.os=w.os
 tape:w'.tape=w.tape
 output:w'.output=w.output
 size:w.heap.size≤w'.heap.size
 block:∀ k,k<w.heap.size→k∉S→w'.heap[k]?=w.heap[k]?
theorem Ch.refl (S:List Nat) (w:World):Ch S w w:=⟨rfl,rfl,rfl,ye _,fun _ _ _=>rfl⟩
theorem Ch.trans {S:List Nat} {a b c:World} (h:Ch S a b) (k:Ch S b c):Ch S a c:=
 ⟨k.os.trans h.os,k.tape.trans h.tape,k.output.trans h.output,yf h.size k.size,fun i hi hn=>(k.block i (yi hi h.size) hn).trans (h.block i hi hn)⟩
theorem Ch.mono {T:List Nat} {b:World} (h:Ch S a b) (hs:∀ x∈S,x∈T):Ch T a b:=⟨h.os,h.tape,h.output,h.size,fun i hi hn=>h.block i hi fun hx=>hn (hs i hx)⟩
theorem Ch.drewN {S:List Nat} {a b:World} (h:Ch S a b) (n:Nat):Ch S a (b.drewN n):=⟨h.os,h.tape,h.output,h.size,h.block⟩
theorem Ch.setChan {S:List Nat} {a b:World} (h:Ch S a b) {c:Nat} (hc:c∈S) (cap:Nat) (buf:Array Value) (cl:Bool) (s r:Nat) (tm:Bool):Ch S a (b.setChan c cap buf cl s r tm):=
 h.trans ⟨rfl,rfl,rfl,by simp [World.setChan],fun k hk hn=>by
  have e:c≠k:=fun e=>hn (by rw [← e];exact hc)
  simp only [World.setChan];rw [Array.getElem?_setIfInBounds_ne e]⟩
theorem Ch.alloc {S:List Nat} {a b:World} (h:Ch S a b) (o:Obj):Ch S a (b.alloc o):=
 h.trans ⟨rfl,rfl,rfl,by simp,fun k hk hn=>Below.heap_alloc _ _ _ hk⟩
theorem Ch.setCell {S:List Nat} {a b:World} (h:Ch S a b) {p:Addr} (hp:p.block∈S) (u:Value):Ch S a (b.setCell p u):=
 h.trans ⟨rfl,rfl,rfl,by simp [World.setCell],fun k hk hn=>yl _ _ _ _ (fun e=>hn (e ▸ hp))⟩
theorem Ch.below {B:Nat} {b:World} (h:Ch S a b) (hb:Below B w a) (hB:B≤a.heap.size) (hS:∀ x∈S,B≤x):Below B w b:=
 hb.trans ⟨h.os,h.tape,h.output,h.size,fun k hk=>h.block k (by omega) fun hx=>by have:=hS k hx;omega⟩
theorem Ch.some {S:List Nat} {a b:World} (h:Ch S a b) {k:Nat} {o:Obj} (hk:a.heap[k]?=yP o) (hn:k∉S):b.heap[k]?=yP o:=by
 rw [h.block k (by have:=(yo.1 hk);exact this.1) hn,hk]
theorem aT1 {k:Nat} {o:Obj} (hk:a.heap[k]?=yP o):k<a.heap.size:=(yo.1 hk).1
theorem aWT {P:Program} {Q:Goroutine→World→Prop} {b:Frame} {c:Code} {k:List Item} {cs:List Frame} (I:Nat→Act→World→Prop)
  (a4P:∀ m a w,I (m+1) a w→(∀ a' w',I m a' w'→LoneTo P Q (G (b.at a' (.code c :: .inLoop c::k)) cs) w')→LoneTo P Q (G (b.at a (.code c :: .inLoop c::k)) cs) w)
  (hend:∀ a w,I 0 a w→LoneTo P Q (G (b.at a (.code c :: .inLoop c::k)) cs) w):∀ m a w,I m a w→LoneTo P Q (G (b.at a (.code c :: .inLoop c::k)) cs) w:=by
 intro m;induction m with
 | zero=>exact hend
 | succ m ih=>exact fun a w h=>a4P m a w h ih
theorem a4Q:∃ j,yM.info? 3=yP j∧j.bytes=8:=by
 have h:(yM.info? 3).map (·.bytes)=yP 8:=by kernel_rfl
 obtain⟨j,hj,hs⟩:=Option.map_eq_some_iff.1 h;exact⟨j,hj,by omega⟩
theorem a4R (n:Nat) (h:n≤4096) (w:World):(Instr.makeChan 189 (yE yH n)).run yM w = .ok (.chan (yP w.heap.size)) (w.alloc (.chan n #[] false 0 0 false)):=by
 obtain⟨i,hi,hb⟩:=a4Q;exact run_makeChan (P:=yM) (w:=w) underlying189 hi .i64 n (by omega) (by rw [hb];omega)
theorem a4S (n:Nat):Frame.enter yM 45 #[yE yH n] .normal=(base 45).at ⟨#[yE yH n,undef,undef,undef,undef,undef,undef,undef,undef,undef,undef,undef,undef,undef,undef,undef,undef,undef,undef,undef,undef,undef,undef,undef,undef,undef,undef,undef],[]⟩ [.code (f45.body.getD .skip)]:=by
 simp [Frame.enter,Frame.at,func45,base,f45];try rfl
def SC (w:World) (n j:Nat) (wr:World):Prop:=
 Below w.heap.size w wr∧wr.heap.size=w.heap.size+2∧wr.heap[w.heap.size]?=yP (a6X n (List.range' 1 j) j 0)∧wr.heap[w.heap.size+1]?=yP (a6W w.heap.size)
def aAI (n z j:Nat) (x5 PE PF PG PH PI PJ PK PL PM:Value):Act:=⟨#[yE yH n,undef,yB yO,yE yH 0,yB (yP ⟨z+1,0,yO⟩),x5,yE yH n,yD false,yD false,yE yH n,yD false,yD false,yE yH n,.chan (yP z),yF #[.chan (yP z)],yB (yP ⟨z+1,0,yO⟩),yE yH n,yE yH j,PE,PF,PG,PH,PI,PJ,PK,PL,PM,undef],[]⟩
def a9S (n:Nat) (w:World) (m:Nat) (a:Act) (wr:World):Prop:=∃ j,j+m=n∧SC w n j wr∧∃ x5 PE PF PG PH PI PJ PK PL PM,a=aAI n w.heap.size j x5 PE PF PG PH PI PJ PK PL PM
theorem a4T (n:Nat) (w:World) (h1:1≤n) (h2:n≤4096) :
  Calls yM 45 #[yE yH n] w fun e w'=>e = .returned (.tuple #[yB (yP ⟨w.heap.size+1,0,yO⟩),yE yH 0])∧SC w n n w':=by
 have d1:decide ((n:Int)<1)=false:=by simp;omega
 have d2:decide (4096<(n:Int))=false:=by simp;omega
 have E5:=a4R n h2;refine calls_of_loneTo fun cs=>?_;rw [a4S];refine LoneTo.goes (n:=100) ?_;simp only [f45,Option.getD_some];repeat (first | s_c stepG_seq | s_c stepG_skip | s_reg | s_c stepG_region_end | s_c stepG_block | s_c stepG_inBlock | s_cond true | s_cond false | s_c stepG_ret' | s_op)
 s_c stepG_loop
 s_stop
 have hw0:SC w n 0 ((w.alloc (.chan n #[] false 0 0 false)).alloc (yL #[.chan (yP w.heap.size)] 191)):=
  ⟨((yk _ w).alloc (ye _) _).alloc (by simp) _,by simp,(Below.heap_alloc _ _ _ (by simp)).trans (bM w _),by
   have:=bM (w.alloc (.chan n #[] false 0 0 false)) (yL #[.chan (yP w.heap.size)] 191)
   rw [World.size_alloc] at this;exact this⟩
 generalize (w.alloc _).alloc _=w1 at *;clear E5 d1 d2;refine aWT (a9S n w) ?_ ?_ n _ _ ⟨0,by omega,hw0,_,_,_,_,_,_,_,_,_,_,rfl⟩
 ·rintro m a wr ⟨j,hj,⟨hb,hz,hc,hp⟩,x5,PE,PF,PG,PH,PI,PJ,PK,PL,PM,rfl⟩ a6Y;clear hw0;have d1:decide (j<n)=true:=by simp;omega
  have c0:=a2B (i:=0) (v:=.chan (yP w.heap.size)) hp rfl;refine LoneTo.goes (n:=100) ?_;simp only [aAI];repeat (first | s_c stepG_seq | s_c stepG_skip | s_reg | s_c stepG_region_end | s_c stepG_block | s_c stepG_inBlock | s_cond true | s_cond false | s_c stepG_ret' | s_op)
  s_stop
  have aAJ:yH.wrap ((j:Int)+1)=((j+1:Nat):Int):=(Go.IntWalk.i64_in _ (by omega)).trans (by omega);rw [aAJ];clear aAJ;refine LoneTo.step (step_lone_send_room (c:=w.heap.size) (cap:=n) (buf:=xH (List.range' 1 j)) (s:=j) (r:=0) (tm:=false) (stepG_comm (cases:=#[scase w.heap.size (yE yH (j+1:Nat)) (.tuple #[])]) (blocking:=true) (shape:=.send) (w':=wr) rfl rfl (by decide) (by simp [execOp,scase,Act.eval])) hc (by rw [aWR];simp;omega)) ?_;rw [Frame.finish_at,aWS];have hr:List.range' 1 j ++ [j+1]=List.range' 1 (j+1):=by
   rw [List.range'_concat];congr 2;omega
  rw [hr];have hb':Below w.heap.size w (wr.setChan w.heap.size n (xH (List.range' 1 (j+1))) false (j+1) 0 false):=below_setChan hb (ye _) _ _ _ _ _ _;have hs':SC w n (j+1) (wr.setChan w.heap.size n (xH (List.range' 1 (j+1))) false (j+1) 0 false):=
   ⟨hb',(size_setChan ..).trans hz,heap_setChan _ _ _ _ _ _ _ _ (aT1 hc),((Ch.refl [w.heap.size] wr).setChan (by simp) _ _ _ _ _ _).some hp (by simp)⟩
  clear hb' hr hb hz hc hp c0;generalize wr.setChan w.heap.size n (xH (List.range' 1 (j+1))) false (j+1) 0 false=w3 at *
  walk_nrm
  refine LoneTo.goes (n:=100) ?_;repeat (first | s_c stepG_seq | s_c stepG_skip | s_reg | s_c stepG_region_end | s_c stepG_block | s_c stepG_inBlock | s_cond true | s_cond false | s_c stepG_ret' | s_op)
  have aAJ:yH.wrap ((j:Int)+1)=((j+1:Nat):Int):=(Go.IntWalk.i64_in _ (by omega)).trans (by omega);rw [aAJ]
  s_c stepG_inLoop
  s_stop
  exact a6Y _ _ ⟨j+1,by omega,hs',_,_,_,_,_,_,_,_,_,_,rfl⟩
 rintro a wr ⟨j,hj,hs,x5,PE,PF,PG,PH,PI,PJ,PK,PL,PM,rfl⟩;obtain rfl:j=n:=by omega
 clear hw0;refine LoneTo.goes (n:=100) ?_;simp only [aAI];repeat (first | s_c stepG_seq | s_c stepG_skip | s_reg | s_c stepG_region_end | s_c stepG_block | s_c stepG_inBlock | s_cond true | s_cond false | s_c stepG_ret' | s_op)
 s_exit
 repeat (first | s_c stepG_seq | s_c stepG_skip | s_reg | s_c stepG_region_end | s_c stepG_block | s_c stepG_inBlock | s_cond true | s_cond false | s_c stepG_ret' | s_op)
 s_stop
 exact LoneTo.done ⟨.returned (.tuple #[yB (yP ⟨w.heap.size+1,0,yO⟩),yE yH 0]),_,rfl,⟨rfl,hs⟩,rfl,rfl,rfl,rfl,_,func45,by simp [results,f45,Frame.at]⟩
end
end Go.Proofs.YtcldomgdkhenpaaGreat.Tok
