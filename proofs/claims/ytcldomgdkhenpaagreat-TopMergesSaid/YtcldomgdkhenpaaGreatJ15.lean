/- Lemmas. -/
import Derived.Test.YtcldomgdkhenpaaGreatJ06
import Derived.Test.YtcldomgdkhenpaaGreatJ12
set_option linter.unusedVariables false
set_option maxRecDepth 1000000
set_option maxHeartbeats 40000000
open Go.Proofs.Tryz
open Go.Proofs.Tryz renaming prog → yM
open Go.Value renaming string → yA,pointer → yB,slice → yC,bool → yD,int → yE,agg → yF,func → yG
open Go.IntKind renaming i64 → yH,u32 → yI,u64 → yJ
open Go.Obj renaming cells → yL
open Option renaming none → yO,some → yP
open Go.Lib renaming hid → yN
open And renaming intro → yd
open Array renaming getElem?_eq_some_iff → yo
open ByteArray renaming empty → yj
open Go.IntKind renaming wrap_i64 → zk
open Go.RowKit.Below renaming drew → ym,heap_setCell → yl,refl → yk,trans → yn
open Go.World renaming cell?_of_block → zn
open List renaming append_assoc → zf,append_nil → zi,length_append → yy,length_cons → zh,mem_append → za,mem_cons → yx,mem_map → zj,pairwise_cons → yz
open Nat renaming le_of_eq → yh,le_refl → ye,le_trans → yf,lt_of_lt_of_le → yi,zero_le → yg
namespace Go.Proofs.YtcldomgdkhenpaaGreat
section
open Go.RowKit
variable {l:List Pr} {lab key:Key} {d n b:Nat} {w:World}
structure Kz where
 b:Nat
 n:Nat
 lab:Key
 l:List Pr
inductive RL (w:World):Nat→Nat→Nat→Key→Key→List Pr→Prop
 | mk (d n b:Nat) (lab key:Key) (has:Bool) (val:Key) (kv:Value) (kz:List Kz) (l:List Pr) (h0:NR w b lab has val kv) (h1:Rd w kv kz.length (kz.map fun q=>ptr q.b)) (h2:has=false→val=yj)
   (hk:key.size+d≤1000) (hd:∀ q∈kz,0<q.lab.size∧q.lab.size≤d) (AD:kz.length≤256) (h5:∀ q∈kz,RL w (d-q.lab.size) q.n q.b q.lab (key++q.lab) q.l)
   (h7:n=1+(kz.map fun q=>q.n).sum) (he:l=tW key (if has then yP val else yO)++kz.flatMap fun q=>q.l):RL w d n b lab key l
theorem RL.sub {w w':World} {d n b:Nat} {lab key:Key} {l:List Pr} (h:RL w d n b lab key l) (hs:Sub w w'):RL w' d n b lab key l:=by
 induction h with
 | mk d n b lab key has val kv kz l h0 h1 h2 hk hd AD h5 h7 he ih=>exact .mk d n b lab key has val kv kz l (h0.sub hs) (h1.sub hs) h2 hk hd AD ih h7 he
theorem RL.kept {w':World} (h:RL w d n b lab key l) (hk:Kept w w'):RL w' d n b lab key l:=h.sub (a0R hk)
theorem RL.size {w:World} {d n b:Nat} {lab key:Key} {l:List Pr} (h:RL w d n b lab key l):key.size+d≤1000:=by cases h;assumption
theorem RR.rl {f:Mp} (h:RR w d b lab f) (key:Key) (hk:key.size+d≤1000):∃ n l,RL w d n b lab key l∧eK l (behind key f):=by
 induction h generalizing key with
 | mk d b lab has val kv ks f h0 h1 h2 h3 h4 h5 h6 h7 ih=>
  rw [CY key h6 h3];have hlen:ks.length≤256:=by
   rcases QS ks (fun q _=>by unfold head;exact UInt8.toNat_lt _) h4 0 (fun _ _=>yg _) with h | h
   ·omega
   rw [h];simp
  have:∀ m:List Kd,(∀ q∈m,q∈ks)→m.Pairwise (fun p q=>head p.lab<head q.lab)→∃ kz:List Kz,kz.map (fun q=>ptr q.b)=m.map (fun q=>ptr q.b)∧
    (∀ q∈kz,(0<q.lab.size∧q.lab.size≤d)∧RL w (d-q.lab.size) q.n q.b q.lab (key++q.lab) q.l)∧eK (kz.flatMap fun q=>q.l) (eV key m):=by
   intro m;induction m with
   | nil=>exact fun _ _=>⟨[],rfl,by simp,P5⟩
   | cons q m ihm=>
    intro hm hp;obtain⟨kz,e1,e2,hl'⟩:=ihm (fun q' hq'=>hm q' (by simp [hq'])) (yz.1 hp).2;have hq:=hm q (by simp);obtain⟨n0,l0,r0,h0'⟩:=ih q hq (key++q.lab) (by rw [eP];have:=h7 q hq;omega);refine⟨⟨q.b,n0,q.lab,l0⟩::kz,by simp [e1],?_,?_⟩
    ·intro z hz;rcases yx.1 hz with rfl | hz
     ·exact⟨⟨h3 q hq,h7 q hq⟩,r0⟩
     exact e2 z hz
    rw [List.flatMap_cons]
    have:=aE0 (key:=key) (l:=[q]) (m:=m) (fun z hz=>h3 z (by
     simp only [List.cons_append,List.nil_append,yx] at hz;rcases hz with rfl | hz
     ·exact hq
     exact hm z (by simp [hz]))) hp
    exact h0'.app hl' (fun a u b v ha hb=>this a u b v (by rw [A4];exact ha) hb)
  obtain⟨kz,e1,e2,hl'⟩:=this ks (fun q hq=>hq) h4;have e3:kz.length=ks.length:=by have:=congrArg List.length e1;simpa using this
  refine⟨_,_,.mk d _ b lab key has val kv kz _ h0 (by rw [e3,e1];exact h1) h2 hk (fun q hq=>(e2 q hq).1) (by omega) (fun q hq=>(e2 q hq).2) rfl rfl,?_⟩;exact (F7 key _).app hl' (aFR h3)
structure Wk where
 b:Nat
 ahead:Key
 own:Bool
 n:Nat
 d:Nat
 l:List Pr
def Wk.meas (x:Wk):Nat:=if x.own then 1 else 2*x.n
structure N9 (V:World) (x:Wk):Prop where
 all:x.own=false→∃ lab,RL V x.d x.n x.b lab (x.ahead++lab) x.l
 own:x.own=true→∃ lab has val kv,NR V x.b lab has val kv∧(has=false→val=yj)∧(x.ahead++lab).size≤1000∧x.l=tW (x.ahead++lab) (if has then yP val else yO)
theorem N9.sub {V V':World} {x:Wk} (h:N9 V x) (hs:Sub V V'):N9 V' x:=
 ⟨fun e=>let ⟨lab,hl⟩:=h.all e;⟨lab,hl.sub hs⟩,fun e=>let ⟨lab,has,val,kv,h1,h2⟩:=h.own e;⟨lab,has,val,kv,h1.sub hs,h2⟩⟩
def dM:List Wk→List Value
 | []=>[]
 | x::l=>ptr x.b::yA x.ahead::yD x.own::dM l
theorem aF6 (l:List Wk):(dM l).length=l.length*3:=by
 induction l with
 | nil=>rfl
 | cons p l ih=>simp [dM,ih];omega
theorem QL (l m:List Wk):dM (l++m)=dM l++dM m:=by
 induction l with
 | nil=>rfl
 | cons f l ih=>simp [dM,ih]
def jZ:List Wk→List Pr
 | []=>[]
 | x::l=>x.l++jZ l
def nT:List Wk→Nat
 | []=>0
 | x::l=>x.meas+nT l
theorem aVA (l m:List Wk):jZ (l++m)=jZ l++jZ m:=by
 induction l with
 | nil=>rfl
 | cons f l ih=>simp [jZ,ih]
theorem aVB (l m:List Wk):nT (l++m)=nT l+nT m:=by
 induction l with
 | nil=>simp [nT]
 | cons f l ih=>simp [nT,ih];omega
def BV:List Wk→Prop
 | []=>True
 | x::l=>(x.own=false→l.length+1≤257*(1001-x.d))∧l.length+1≤257*1002∧BV l
theorem BV.len {l:List Wk} (h:BV l):l.length≤257*1002:=by
 cases l with
 | nil=>exact yg _
 | cons x l=>exact h.2.1
theorem BV.kids {st:List Wk} (h:BV st) (hst:st.length+1≤257*(1001-d)) (hd:d≤1000):∀ (l:List Wk),(∀ x∈l,x.own=false→x.d+1≤d)→l.length≤257→BV (l++st):=by
 intro l;induction l with
 | nil=>exact fun _ _=>h
 | cons x l ih=>
  intro hx hl;rw [zh] at hl;refine⟨fun e=>?_,?_,ih (fun y hy=>hx y (by simp [hy])) (by omega)⟩
  ·have:=hx x (by simp) e;rw [show (l.append st).length=l.length+st.length from yy];omega
  rw [show (l.append st).length=l.length+st.length from yy];omega
def spread (b:Nat) (ahead key:Key) (own:List Pr) (d:Nat) (kz:List Kz):List Wk:=⟨b,ahead,true,0,0,own⟩::kz.map fun q=>⟨q.b,key,false,q.n,d-q.lab.size,q.l⟩
theorem aRF (b:Nat) (ahead key:Key) (own:List Pr) (d:Nat) (kz:List Kz):jZ (spread b ahead key own d kz)=own++kz.flatMap fun q=>q.l:=by
 unfold spread jZ;congr 1;induction kz with
 | nil=>rfl
 | cons q kz ih=>rw [List.map_cons,List.flatMap_cons];unfold jZ;rw [ih]
theorem aRG (b:Nat) (ahead key:Key) (own:List Pr) (d:Nat) (kz:List Kz):nT (spread b ahead key own d kz)=1+2*(kz.map fun q=>q.n).sum:=by
 unfold spread nT;have:Wk.meas ⟨b,ahead,true,0,0,own⟩=1:=rfl;rw [this];congr 1;induction kz with
 | nil=>rfl
 | cons q kz ih=>
  rw [List.map_cons,List.map_cons,List.sum_cons];unfold nT;rw [ih];have:Wk.meas ⟨q.b,key,false,q.n,d-q.lab.size,q.l⟩=2*q.n:=rfl;rw [this];omega
theorem JR (b:Nat) (ahead key:Key) (own:List Pr) (d:Nat) (kz:List Kz):(spread b ahead key own d kz).length=kz.length+1:=by simp [spread]
theorem aRH (b:Nat) (ahead key:Key) (own:List Pr) (d:Nat) (kz:List Kz) {i:Nat} (hi:i<kz.length):(spread b ahead key own d kz).take (i+1+1)=(spread b ahead key own d kz).take (i+1) ++ [⟨kz[i].b,key,false,kz[i].n,d-kz[i].lab.size,kz[i].l⟩]:=by
 rw [List.take_add_one];congr 1;unfold spread;rw [List.getElem?_cons_succ,List.getElem?_map,List.getElem?_eq_getElem hi];rfl
theorem aS0 (b:Nat) (ahead key:Key) (own:List Pr) (d:Nat) (kz:List Kz):(spread b ahead key own d kz).take (kz.length+1)=spread b ahead key own d kz:=List.take_of_length_le (by rw [JR];exact ye _)
end
section
open Go.RowKit
variable {i:Nat}
instance:Inhabited Wk:=⟨⟨0,yj,false,0,0,[]⟩⟩
theorem aS1 (l:List Wk) (r:Nat):(dM l).take (r*3)=dM (l.take r):=by
 induction l generalizing r with
 | nil=>simp [dM]
 | cons p l ih=>
  cases r with
  | zero=>simp [dM]
  | succ r=>
   rw [show (r+1)*3=r*3+1+1+1 by omega];simp [dM,ih]
theorem aS2 (l:List Wk) (r:Nat):(dM l).drop (r*3)=dM (l.drop r):=by
 induction l generalizing r with
 | nil=>simp [dM]
 | cons p l ih=>
  cases r with
  | zero=>simp
  | succ r=>
   rw [show (r+1)*3=r*3+1+1+1 by omega];simp [dM,ih]
theorem aVC {l:List Wk} {r:Nat} {p:Wk} (h:r<l.length):dM (l.set r p)=(dM l).take (r*3)++([ptr p.b,yA p.ahead,yD p.own]++(dM l).drop ((r+1)*3)):=by
 rw [aS1,aS2,List.set_eq_take_append_cons_drop,if_pos h,QL];rfl
theorem V4 {l:List Wk} {p:Wk} (h:l[i]?=yP p):(dM l)[i*3]?=yP (ptr p.b)∧(dM l)[i*3+1]?=yP (yA p.ahead)∧(dM l)[i*3+2]?=yP (yD p.own):=by
 induction l generalizing i with
 | nil=>simp at h
 | cons q l ih=>
  cases i with
  | zero=>simp at h;subst h;simp [dM]
  | succ i=>
   simp at h;have:=ih h;rw [show (i+1)*3=i*3+1+1+1 by omega];exact⟨this.1,this.2.1,this.2.2⟩
def SW (B:Nat) (w0:World) (g n cap:Nat) (d:Array Wk) (W:World):Prop:=
 W.ownsRow B 373 3 (yC (yP ⟨g,0,yO⟩) n cap) n (dM d.toList)∧w0.grownBy W (yP g)∧d.size=n
section
variable {B:Nat} {w0 W:World} {g n cap:Nat} {d:Array Wk}
theorem SW.kept {W':World} (h:SW B w0 g n cap d W) (hk:Kept W W'):SW B w0 g n cap d W':=
 ⟨bT h.1 hk,⟨hk.os.trans h.2.1.os,hk.tape.trans h.2.1.tape,hk.output.trans h.2.1.output,yf h.2.1.size hk.size,fun k aS hk2=>(hk.block k (yi aS h.2.1.size)).trans (h.2.1.block k aS hk2)⟩,h.2.2⟩
theorem SW.at_ (h:SW B w0 g n cap d W) (hi:i<n):d.toList[i]?=yP d[i]!:=by
 have:i<d.size:=by rw [h.2.2];exact hi
 rw [List.getElem?_eq_getElem (by simpa using this)];simp [getElem!_pos d i this]
theorem SW.c1 (h:SW B w0 g n cap d W) (hi:i<n):W.cell? ⟨g,i*3,yO⟩=yP (yB (yP ⟨d[i]!.b,0,yO⟩)):=gU h.1 (V4 (h.at_ hi)).1
theorem SW.c2 (h:SW B w0 g n cap d W) (hi:i<n):W.cell? ⟨g,i*3+1,yO⟩=yP (yA d[i]!.ahead):=gU h.1 (V4 (h.at_ hi)).2.1
theorem SW.c3 (h:SW B w0 g n cap d W) (hi:i<n):W.cell? ⟨g,i*3+2,yO⟩=yP (yD d[i]!.own):=gU h.1 (V4 (h.at_ hi)).2.2
theorem SW.fz (h:SW B w0 g n cap d W) (j:Nat):W.frozen? ⟨g,j,yO⟩=false:=let ⟨_,hh⟩:=dX h.1 rfl;aU hh
theorem SW.set (h:SW B w0 g n cap d W) (hi:i<n) (p:Wk):SW B w0 g n cap (d.setIfInBounds i p) (((W.setCell ⟨g,i*3,yO⟩ (yB (yP ⟨p.b,0,yO⟩))).setCell ⟨g,i*3+1,yO⟩ (yA p.ahead)).setCell ⟨g,i*3+2,yO⟩ (yD p.own)):=by
 have h1:=yR h.1 hi (ys:=[ptr p.b,yA p.ahead,yD p.own]) rfl;have hg:=eU g [ptr p.b,yA p.ahead,yD p.own] (i*3) W;refine⟨?_,mS h.2.1 hg,by rw [Array.size_setIfInBounds];exact h.2.2⟩;rw [Array.toList_setIfInBounds,aVC (by rw [Array.length_toList,h.2.2];exact hi)];exact h1
end
def TB (d:Array Wk) (i j:Nat):Array Wk:=(d.setIfInBounds i d[j]!).setIfInBounds j d[i]!
theorem a08 (d:Array Wk) (i j k:Nat) (hi:i<d.size) (hj:j<d.size):(TB d i j)[k]! = if k=j then d[i]! else if k=i then d[j]! else d[k]!:=by
 unfold TB;simp only [getElem!_def,Array.getElem?_setIfInBounds];by_cases h1:j=k;·subst h1;simp [hj]
 by_cases h2:i=k
 ·subst h2;rw [if_neg h1,if_pos rfl,if_pos hi,if_neg (fun e=>h1 e.symm),if_pos rfl]
 rw [if_neg h1,if_neg h2,if_neg (fun e=>h1 e.symm),if_neg (fun e=>h2 e.symm)]
theorem a09 {d e:Array Wk} {n j:Nat} (hd:d.size=n) (he:e.size=n) (gX:i+j+1=n) (hle:j≤i) (h:∀ k,k<n→e[k]! = if i≤k∧k≤j then d[k]! else d[n-1-k]!):e=d.reverse:=by
 apply Array.ext (by simp [hd,he]);intro k h1 h2;have hk:k<n:=by omega
 have h3:=h k hk;rw [getElem!_pos e k h1] at h3;rw [h3,Array.getElem_reverse];have hn:n-1-k<d.size:=by omega
 split
 ·next hh=>
  have:k=n-1-k:=by omega
  rw [getElem!_pos d k (by omega)];congr 1;omega
 rw [getElem!_pos d _ hn];congr 1;omega
theorem a1A (B g n cap:Nat) (d:Array Wk) (w0 w:World) (h:SW B w0 g n cap d w) (jM:0<n) (hn:n≤1000000) :
  Calls yM 341 #[yC (yP ⟨g,0,yO⟩) n cap] w fun e w'=>e = .returned (.tuple #[])∧SW B w0 g n cap d.reverse w':=by
 have H:=yN h;have c0:(n:Int)-1=((n-1:Nat):Int):=by omega
 have c1:yH.wrap ((n:Int)-1)=((n-1:Nat):Int):=by rw [zk];omega
 clear h;go_enter func341,ntmps341;go_wp2_with fail
 go_loopg [2,3] n (fun kx s2 s3 wr=>∃ (i j:Nat) (dk:Array Wk),s2=yE yH i∧s3=yE yH j∧i+j+1=n∧n-i≤kx∧Hid (SW B w0 g n cap dk wr)∧Hid (∀ k,k<n→dk[k]! = if i≤k∧k≤j then d[k]! else d[n-1-k]!))
 case atStart=>exact⟨0,n-1,d,rfl,rfl,by omega,by omega,H,yN (fun k hk=>by rw [if_pos (by omega)])⟩
 obtain⟨i,j,dk,rfl,rfl,gX,hg,S1,HD⟩:=hrel;by_cases hlt:i<j
 ·have cD:(i:Int)<(j:Int):=by omega
  have sM:i<n∧j<n:=by omega
  have wC:=yN S1.o.2.2;go_wp2_with fail;obtain⟨x,hx⟩:∃ x,x=(dk)[i]!:=⟨_,rfl⟩;obtain⟨y,hy⟩:∃ y,y=(dk)[j]!:=⟨_,rfl⟩;have cN:Hid (SW B w0 g n cap (dk) wr.drew):=yN (S1.o.kept (ym (yk _ _)));have bP:=yN (yd hx hy);have ea:(((i:Nat):Int)).toNat=i:=by omega
  have eb:(((j:Nat):Int)).toNat=j:=by omega
  have wa:yH.wrap ((i:Nat):Int)=((i:Nat):Int):=by rw [zk];omega
  have wb:yH.wrap ((j:Nat):Int)=((j:Nat):Int):=by rw [zk];omega
  have pa:(0:Int)≤((i:Nat):Int)∧((i:Nat):Int)<(n:Int):=by omega
  have pb:(0:Int)≤((j:Nat):Int)∧((j:Nat):Int)<(n:Int):=by omega
  refine cP (fun W:World=>W.cell? ⟨g,j*3,yO⟩=yP (yB (yP ⟨y.b,0,yO⟩))∧W.cell? ⟨g,j*3+1,yO⟩=yP (yA y.ahead)∧W.cell? ⟨g,j*3+2,yO⟩=yP (yD y.own)∧W.cell? ⟨g,i*3,yO⟩=yP (yB (yP ⟨x.b,0,yO⟩))∧W.cell? ⟨g,i*3+1,yO⟩=yP (yA x.ahead)∧W.cell? ⟨g,i*3+2,yO⟩=yP (yD x.own)) 13 16 ⟨by rw [hy];exact S1.o.c1 (by omega),by rw [hy];exact S1.o.c2 (by omega),by rw [hy];exact S1.o.c3 (by omega),by rw [hx];exact S1.o.c1 (by omega),by rw [hx];exact S1.o.c2 (by omega),by rw [hx];exact S1.o.c3 (by omega)⟩ fun HS=>?_;clear S1 hx hy;generalize wr.drew=wd at *;refine tM 0 HS ?_;refine tM 1 HS ?_;refine tM 2 HS ?_;refine tM 3 HS ?_;refine tM 4 HS ?_;refine tM 5 HS ?_;refine tM 6 HS ?_;refine lM 7 HS ?_;refine tM 8 HS ?_;refine tM 9 HS ?_;refine tM 10 HS ?_;refine lM 11 HS ?_;refine tM 12 HS ?_;go_frame;have z1:=HS.o.2.2.2.1;have z2:=HS.o.2.2.2.2.1;have z3:=HS.o.2.2.2.2.2;have f1:wd.frozen? ⟨g,i*3,yO⟩=false:=cN.o.fz _;have f2:wd.frozen? ⟨g,i*3+1,yO⟩=false:=cN.o.fz _;have f3:wd.frozen? ⟨g,i*3+2,yO⟩=false:=cN.o.fz _;refine oM 13 fun K hK=>?_;go_simp;refine hK _ _ aX ?_;have S2:Hid (SW B w0 g n cap ((dk).setIfInBounds (i) y) (((wd.setCell ⟨g,i*3,yO⟩ (yB (yP ⟨y.b,0,yO⟩))).setCell ⟨g,i*3+1,yO⟩ (yA y.ahead)).setCell ⟨g,i*3+2,yO⟩ (yD y.own))):=yN (cN.o.set (by omega) y);clear hK K z1 z2 z3 f1 f2 f3 HS cN;generalize (((wd.setCell _ _).setCell _ _).setCell _ _)=we at *;refine fF 14 aX (h:=?_);go_frame;have z1:=S2.o.c1 (i:=j) (by omega);have z2:=S2.o.c2 (i:=j) (by omega);have z3:=S2.o.c3 (i:=j) (by omega);have f1:we.frozen? ⟨g,j*3,yO⟩=false:=S2.o.fz _;have f2:we.frozen? ⟨g,j*3+1,yO⟩=false:=S2.o.fz _;have f3:we.frozen? ⟨g,j*3+2,yO⟩=false:=S2.o.fz _;generalize (((dk).setIfInBounds (i) y)[j]!).b=NG at *;generalize (((dk).setIfInBounds (i) y)[j]!).ahead=NH at *;generalize (((dk).setIfInBounds (i) y)[j]!).own=zz3 at *;refine oM 15 fun K hK=>?_;go_simp;refine hK _ _ aX ?_;have S3:Hid (SW B w0 g n cap (TB (dk) (i) (j)) (((we.setCell ⟨g,j*3,yO⟩ (yB (yP ⟨x.b,0,yO⟩))).setCell ⟨g,j*3+1,yO⟩ (yA x.ahead)).setCell ⟨g,j*3+2,yO⟩ (yD x.own))):=yN (by have h3:=S2.o.set (i:=j) (by omega) x;unfold TB;rw [← bP.o.1,← bP.o.2];exact h3);clear hK K z1 z2 z3 f1 f2 f3 S2 bP ea eb wa wb pa pb;generalize (((we.setCell _ _).setCell _ _).setCell _ _)=wf at *;refine cM ?_;have c2:(j:Int)-1=((j-1:Nat):Int):=by omega
  have c3:yH.wrap ((j:Int)-1)=((j-1:Nat):Int):=by rw [zk];omega
  go_wp2;go_roundg (n-(i+1));case measure=>omega
  refine⟨i+1,j-1,_,by congr 1,by congr 1,by omega,ye _,S3,yN fun k hk=>?_⟩;rw [a08 dk i j k (by rw [wC.o];omega) (by rw [wC.o];omega)];by_cases e1:k=j
  ·subst e1;rw [if_pos rfl,if_neg (by omega),HD.o i (by omega),if_pos (by omega)];congr 1;omega
  rw [if_neg e1];by_cases e2:k=i
  ·subst e2;rw [if_pos rfl,if_neg (by omega),HD.o j (by omega),if_pos (by omega)];congr 1;omega
  rw [if_neg e2,HD.o k hk];by_cases e3:i≤k∧k≤j;·rw [if_pos e3,if_pos (by omega)]
  rw [if_neg e3,if_neg (by omega)]
 have cD:¬ (i:Int)<(j:Int):=by omega
 have e:=a09 H.o.2.2 S1.o.2.2 gX (by omega) HD.o;subst e;go_wp2;go_end0;exact⟨rfl,S1.o⟩
end
section
open Go.RowKit
theorem a1B (a:List UInt8):Op.bytesLess a []=false:=by cases a <;> rfl
theorem aIL (k:Key):Op.bytesLess (ByteArray.toList k) []=false:=a1B _
theorem aYK (w:World):Calls yM 181 #[] w fun e w'=>e = .returned (yF #[yA ⟨#[]⟩,yA ⟨#[]⟩,yD true])∧Kept w w':=by
 obtain⟨aA,hb⟩:=aW w (yL #[yA ⟨#[]⟩,yA ⟨#[]⟩,yD true] 44);have HA:=yN aA;have HB:=yN hb;go_enter func181,ntmps181;go_wp2_with fail;refine bodyPost_ret (eQ rfl rfl HB.o underlying44 rfl (by kernel_rfl)) rfl ?_;exact⟨rfl,HA.o⟩
theorem aYL (k:Key) (w:World):Calls yM 340 #[yF #[yA ⟨#[]⟩,yA ⟨#[]⟩,yD true],yA k] w fun e w'=>e = .returned (yD false)∧Kept w w':=by
 have aA:=aZ w (yL #[yA ⟨#[]⟩,yA ⟨#[]⟩,yD true] 44);have HA:=yN aA;have hl:=aIL k;go_enter func340,ntmps340;go_wp2_with fail;go_ret;exact⟨rfl,HA.o⟩
theorem a1C (k:Key) (w:World):Calls yM 279 #[yF #[yA ⟨#[]⟩,yA ⟨#[]⟩,yD true],yA k] w fun e w'=>e = .returned (yD true)∧Kept w w':=by
 have aA:=aZ w (yL #[yA ⟨#[]⟩,yA ⟨#[]⟩,yD true] 44);have HA:=yN aA;have hl:=aIL k;go_enter func279,ntmps279;go_wp2_with fail;go_ret;exact⟨rfl,HA.o⟩
structure iV (B:Nat) (Y:Nat→Bool) (W:World) (cb:Nat) (sv:Value) (st:List Wk):Prop where
 c:W.heap[cb]?=yP (yL #[sv,yA ⟨#[]⟩,yA ⟨#[]⟩,yD true,yD false] 371)
 row:W.ownsRow B 373 3 sv st.length (dM st.reverse)
 wk:∀ x∈st,N9 (bO Y W) x
 yc:Y cb=false
 yw:∀ g,sv.ownBlock=yP g→Y g=false
 ys:∀ i,Y i=true→i<W.heap.size
 b:B≤cb
 lev:BV st
section
variable {B:Nat} {Y:Nat→Bool} {W W':World} {cb:Nat} {sv:Value} {st:List Wk}
theorem iV.lt (h:iV B Y W cb sv st):cb<W.heap.size:=(yo.1 h.c).1
theorem iV.sU (h:iV B Y W cb sv st) {i:Nat} (hi:Y i=true∨i=cb∨sv.ownBlock=yP i):i<W.heap.size:=by
 rcases hi with hi | rfl | hi
 ·exact h.ys i hi
 ·exact h.lt
 exact (h.row.lt i hi).2
theorem iV.stays (h:iV B Y W cb sv st) (hk:∀ i,(Y i=true∨i=cb∨sv.ownBlock=yP i)→W'.heap[i]?=W.heap[i]?) (hs:W.heap.size≤W'.heap.size):iV B Y W' cb sv st:=
 ⟨(hk cb (.inr (.inl rfl))).trans h.c,cF h.row fun g hg=>hk g (.inr (.inr hg)),fun f hf=>(h.wk f hf).sub (oT (fun i hi=>hi) fun i hi _=>hk i (.inl hi)),h.yc,h.yw,fun i hi=>yi (h.ys i hi) hs,h.b,h.lev⟩
theorem iV.kept (h:iV B Y W cb sv st) (hk:Kept W W'):iV B Y W' cb sv st:=h.stays (fun i hi=>hk.block i (h.sU hi)) hk.size
end
theorem aI4:(yM.info? 373).map (fun i=>(i.zero,i.size,i.bytes))=yP (yP (yF #[yB yO,yA yj,yD false]),3,32):=by kernel_rfl
theorem UK (w:World) (x y z:Value) (t:TypeId):∀ j u,[x,y,z][j]?=yP u→(w.alloc (yL #[x,y,z] t)).cell? ((⟨w.heap.size,0,yO⟩:Addr).add j)=yP u:=by
 intro j u hj;rw [Addr.add_lit];refine aG (bM w _) ?_;rw [Nat.zero_add];simpa using hj
theorem aVD (l:List Wk):∀ u∈dM l,u.oneCell'=true:=by
 induction l with
 | nil=>simp [dM]
 | cons x l ih=>
  intro u hu;simp only [dM,yx] at hu;rcases hu with rfl | rfl | rfl | hu
  ·rfl
  ·rfl
  ·rfl
  exact ih u hu
theorem aYM {B:Nat} {Y:Nat→Bool} {W W7:World} {cb:Nat} {sv v':Value} {st gZ:List Wk} (h:iV B Y W cb sv st) (hc:W7.heap[cb]?=yP (yL #[v',yA ⟨#[]⟩,yA ⟨#[]⟩,yD true,yD false] 371)) (hrow:W7.ownsRow B 373 3 v' (gZ++st).length (dM (gZ++st).reverse))
  (hwk:∀ x∈gZ,N9 (bO Y W) x) (h1:∀ i,Y i=true→W7.heap[i]?=W.heap[i]?) (hs:W.heap.size≤W7.heap.size) (hv:∀ g,v'.ownBlock=yP g→Y g=false) (zD:BV (gZ++st)):iV B Y W7 cb v' (gZ++st):=by
 have j4:Sub (bO Y W) (bO Y W7):=oT (fun i hi=>hi) fun i hi _=>h1 i hi;refine⟨hc,hrow,fun x hx=>?_,h.yc,hv,fun i hi=>yi (h.ys i hi) hs,h.b,zD⟩;rcases za.1 hx with hx | hx
 ·exact (hwk x hx).sub j4
 exact (h.wk x hx).sub j4
def a5O (B:Nat) (Y:Nat→Bool) (W:World) (cb:Nat) (sv:Value) (st:List Wk) (n:Nat) (l:List Pr) (e:Ending) (W':World):Prop:=
 e = .returned (.tuple #[])∧∃ dP gZ,iV B Y W' cb dP (gZ++st)∧dR cb sv Y W dP Y W'∧jZ gZ=l∧nT gZ<2*n
theorem aYN (B:Nat) (Y:Nat→Bool) (W:World) (cb:Nat) (sv:Value) (st:List Wk) (b d n:Nat) (ahead lab:Key) (l:List Pr) (h:iV B Y W cb sv st) (hB:B≤W.heap.size) (hr:RL (bO Y W) d n b lab (ahead++lab) l) (hst:st.length+1≤257*(1001-d)) :
  Calls yM 278 #[yB (yP ⟨cb,0,yO⟩),yF #[yB (yP ⟨b,0,yO⟩),yA ahead,yD false]] W (a5O B Y W cb sv st n l):=by
 obtain⟨i0,bS,hz0,hzs,hzb⟩:=info_parts aI4;obtain⟨sa,mX,rfl⟩:=bW h.row;generalize hkey:ahead++lab=key at hr;cases hr with
 | mk d n b lab key has val kv kz l h0 h1 h2 hk hd AD h5 h7 he=>
 obtain⟨ol,I5⟩:∃ ol,ol=tW key (if has then yP val else yO):=⟨_,rfl⟩;rw [← I5] at he;have HOL:=yN I5;clear I5;obtain⟨aA,hb⟩:=aW W (yL #[yB (yP ⟨b,0,yO⟩),yA ahead,yD false] 373);have e0:=ch 0 hb;have e1:=ch 1 hb;have H:=yN h;have HN:=yN (h0.sub (BB Y W));have HNY:=yN h0;have HKV:=yN (h1.sub (BB Y W));have HE:=yN (yd h2 (yd hk (yd hd (yd h5 (yd h7 he)))));have HA:=yN aA;have HB:=yN hb;have HKEY:=yN hkey;have hsz:¬ 9223372036854775807<ByteArray.size ahead+ByteArray.size lab:=by rw [← eP,hkey];omega
 clear h h0 h1 h2 hk hd h5 h7 he aA hb hkey;go_enter func278,ntmps278;go_wp2_with fail;generalize W.alloc _=w1 at *;obtain⟨wb,hwb⟩:∃ wb,wb=W.heap.size:=⟨_,rfl⟩;rw [← hwb] at e0 e1 HB ⊢;have HWB:=yN hwb;clear hwb;have aV:=yN (gB w1);refine jE (fun W:World=>W.cell? ⟨wb,0,yO⟩=yP (yB (yP ⟨b,0,yO⟩))∧W.cell? ⟨wb,1,yO⟩=yP (yA ahead)) 7 ⟨e0,e1⟩ fun HS=>?_;clear e0 e1;generalize w1.drew=w2 at *;refine tH 0 HS ?_;refine tH 1 HS ?_;refine tH 2 HS ?_;refine tH 3 HS ?_;go_frame;refine oH 4 fun K hK=>?_;go_simp;refine (wX b lab val has kv w2 ((HN.o.kept HA.o).kept aV.o)).mono ?_;rintro e w' ⟨rfl,rfl⟩;refine hK _ _ HS.o ?_;clear hK K;refine oH 5 fun K hK=>?_;go_simp;refine hK _ _ HS.o ?_;clear hK K;refine oH 6 fun K hK=>?_;go_simp;refine hK _ _ HS.o ?_;clear hK K;refine dA ?_;rw [HKEY.o];have TC:=(H.o.kept HA.o).kept aV.o;have HCD:=yN TC;have es:=ch 1 TC.c;have OA:=ch 2 TC.c;have es3:=ch 3 TC.c;clear TC;go_wp2_with fail;refine (aYL key w2).mono ?_;rintro e w3 ⟨rfl,hk3⟩;have aL:=yN hk3;have g0:=hk3.cell HS.o.1;have g1:=hk3.cell HS.o.2;obtain⟨aA,hbl⟩:=aW w3 (yL #[yB (yP ⟨b,0,yO⟩),yA ahead,yD true] 373);have g2:=aA.cell g0;have cA:=yN aA;have TD:=yN hbl;clear hk3 HS es OA es3 aA hbl;go_wp2_with fail;generalize w3.alloc _=w4 at *;obtain⟨b0,hb0⟩:∃ b0,b0=w3.heap.size:=⟨_,rfl⟩;rw [← hb0] at TD ⊢;have gI:=yN hb0;have ZM:=aB HA.o (aB aV.o (aB aL.o cA.o));have bHA:=yN ZM
 refine (Q0 b kz.length lab val has kv _ w4 (HN.o.kept ZM) (HKV.o.kept ZM) (by simp) (by omega) (by
  intro u hu;obtain⟨x,_,rfl⟩:=zj.1 hu
  rfl)).mono ?_
 rintro e w5 ⟨kw,rfl,ho5,bQ⟩;obtain⟨ka,kc,rfl⟩:=bW ho5;have a5P:w4.ownsRow b0 373 3 (yC (yP ⟨b0,0,yO⟩) 1 1) 1 [yB (yP ⟨b,0,yO⟩),yA ahead,yD true]:=⟨rfl,.inr ⟨b0,1,_,rfl,ye _,TD.o,ye _,by unfold maxLen;omega,rfl,rfl⟩⟩;have HR0:=yN (bT a5P bQ);have nI:=yN ho5;have bI:=yN (show Below b0 w3 w5 from yn (by rw [hb0];exact cA.o) (bQ.mono (by rw [hb0];exact cA.o.size)));have bHB:=yN bQ;clear ho5 bQ a5P ZM g0 g1 g2 hb0;go_wp2_with fail
 go_loopg [5,30] kz.length (fun kx s5 OB wr=>∃ (i:Nat) (lv:Value),OB=yE yH i∧lv=s5∧i≤kz.length∧kz.length-i≤kx∧Hid (wr.ownsRow b0 373 3 lv (i+1) (dM ((spread b ahead key ol d kz).take (i+1))))∧
  Hid (wr.ownsRow w4.heap.size 177 1 (yC ka kz.length kc) kz.length (kz.map fun q=>ptr q.b))∧Hid (Below b0 w3 wr))
 case atStart=>exact⟨0,_,rfl,rfl,yg _,ye _,HR0,nI,bI⟩
 obtain⟨i,lv,rfl,rfl,hi,hm,HR,HO,HK⟩:=hrel;by_cases hlt:i<kz.length
 ·have cD:(i:Int)<(kz.length:Int):=by omega
  have a8I:(0:Int)≤(i:Int):=by omega
  have ei:((i:Nat):Int).toNat=i:=by omega
  obtain⟨gk,kc',hkw⟩:=aF5 HO.o (by omega);injection hkw with aS _ hk3
  subst aS;subst hk3;obtain⟨q,hq⟩:∃ q,q=kz[i]:=⟨_,rfl⟩;have ek:wr.cell? ⟨gk,i,yO⟩=yP (yB (yP ⟨q.b,0,yO⟩)):=gU HO.o (by rw [List.getElem?_map,List.getElem?_eq_getElem hlt,hq];rfl);have HQ:=yN hq;have hz3:=HK.o.size;have hZ:b0≤(wr.alloc (yL #[yB (yP ⟨q.b,0,yO⟩),yA key,yD false] 373)).heap.size:=by have:=gI.o;simp;omega
  have h1c:∀ u∈[yB (yP ⟨q.b,0,yO⟩),yA key,yD false],u.oneCell'=true:=by intro u hu;simp at hu;rcases hu with rfl | rfl | rfl <;> rfl
  have hmx:i+1+1≤maxLen:=by unfold maxLen;omega
  have N3:=UK wr (yB (yP ⟨q.b,0,yO⟩)) (yA key) (yD false) 373;obtain⟨la,bHC,rfl⟩:=bW HR.o;clear hq;go_wp2_with (at_builtin;refine wpList_append_own _ rfl _ _ 369 rfl b0 373 i0 (yF #[yB yO,yA yj,yD false]) 3 32 underlying369 bS hz0 hzs hzb rfl (by decide) _ _ _ rfl (HR.o.alloc _) ⟨wr.heap.size,0,yO⟩ 1 1 [yB (yP ⟨q.b,0,yO⟩),yA key,yD false] rfl rfl N3 h1c hmx (by omega) hZ ?_);intro v' wa hown hgrow _;obtain⟨va,vc,rfl⟩:=bW hown;have aA:=(yk wr.heap.size wr).alloc (ye _) (yL #[yB (yP ⟨q.b,0,yO⟩),yA key,yD false] 373);have a5Q:Below b0 w3 wa:=Below.grown (HK.o.alloc (by have:=gI.o;omega) _) hgrow (by have:=gI.o;simp;omega) (fun p hp=>(HR.o.lt p hp).1);have hoK:wa.ownsRow w4.heap.size 177 1 (yC (yP ⟨gk,0,yO⟩) kz.length kc) kz.length (kz.map fun q=>ptr q.b):=by
   refine cF (bT HO.o aA) fun p hp=>hgrow.block p ((bT HO.o aA).lt p hp).2 (fun e=>?_);obtain⟨c1,hc1⟩:=dX HO.o hp;exact fR HR.o hc1 (by decide) e.symm
  have dC:=yN (yd hown (yd a5Q hoK));clear hown hgrow a5Q hoK aA N3 h1c hZ;go_wp2;go_roundg (kz.length-(i+1));case measure=>omega
  refine⟨i+1,yC va (i+1+1) vc,by congr 1,rfl,by omega,ye _,yN ?_,yN dC.o.2.2,yN dC.o.2.1⟩;rw [aRH b ahead key _ d kz hlt,QL,← HQ.o];exact dC.o.1
 have OC:i=kz.length:=by omega
 subst OC;have cD:¬ (kz.length:Int)<(kz.length:Int):=by omega
 have oG:Kept W wr:=aB (aB HA.o (aB aV.o aL.o)) (show Below w3.heap.size w3 wr from gI.o ▸ HK.o);have hcr:=H.o.kept oG;have TE:=yN hcr;have e4:=ch 4 hcr.c;obtain⟨g2,lL,hlv⟩:=V3 HR.o;subst hlv;have aK9:=HR.o;rw [aS0] at aK9;have hSW:SW b0 wr g2 (kz.length+1) lL (spread b ahead key ol d kz).toArray wr:=⟨aK9,P6 _ _,by simp [JR]⟩;have sX:=yN hSW;have hg2:=(HR.o.lt g2 rfl).1;have OD:=yN oG;have bHD:=H.o.lt;have hs3:W.heap.size≤b0:=by rw [gI.o];exact yf HA.o.size (yf aV.o.size aL.o.size)
 clear hcr aK9 hSW oG;go_wp2_with fail;refine (a1A b0 g2 (kz.length+1) lL _ wr wr sX.o (by omega) (by omega)).mono ?_;rintro e w6 ⟨rfl,MA⟩;have L5:w6.heap[cb]?=wr.heap[cb]?:=MA.2.1.block cb (by have:=TE.o.lt;omega) (fun e=>by have e2:cb=g2:=Option.some.inj e;omega);have xD:=L5.trans TE.o.c;have NZ:=ch 0 xD
 have lN:w6.ownsRow B 373 3 (yC sa st.length mX) st.length (dM st.reverse):=cF TE.o.row fun p hp=>MA.2.1.block p (TE.o.row.lt p hp).2 (fun e=>by
  have e2:p=g2:=Option.some.inj e;have:=(H.o.row.lt p hp).2;omega)
 have hnews:∀ j u,(dM (spread b ahead key ol d kz).reverse)[j]?=yP u→w6.cell? ((⟨g2,0,yO⟩:Addr).add j)=yP u:=fun j u hj=>by
  rw [Addr.add_lit,Nat.zero_add];refine gU MA.1 ?_;rw [Array.toList_reverse,List.toList_toArray];exact hj
 have zP:(dM (spread b ahead key ol d kz).reverse).length=(kz.length+1)*3:=by rw [aF6,List.length_reverse,JR]
 have zE:=aVD (spread b ahead key ol d kz).reverse;have bHE:=H.o.lev.len;have hmx:st.length+(kz.length+1)≤maxLen:=by unfold maxLen;omega
 have a8J:(st.length+(kz.length+1))*32≤140737488355328:=by omega
 have kY:=MA.2.1.size;have ER:=OD.o.size;have hZ:B≤w6.heap.size:=by omega
 have I6:=yN (yd MA xD);clear MA xD L5 e4;go_wp2_with (at_builtin;refine wpList_append_own_at _ rfl _ _ 369 rfl B 373 i0 (yF #[yB yO,yA yj,yD false]) 3 32 underlying369 bS hz0 hzs hzb rfl (by decide) _ _ _ rfl lN ⟨g2,0,yO⟩ (kz.length+1) lL _ rfl zP hnews zE hmx a8J hZ ?_);intro v' w7 hown hgrow _ hat;have aLA:(yC sa st.length mX).ownBlock≠yP cb:=fR lN I6.o.2 (by decide);have XO:w7.heap[cb]?=_:=(hgrow.block cb (by omega) (fun e=>aLA e.symm)).trans I6.o.2;have ec7:=ch 0 XO;have fc7:=fh 0 XO;obtain⟨va,vc,rfl⟩:=bW hown;have rA:=yN (yd hown (yd hgrow (yd hat XO)));clear hown hgrow hat XO hnews zE zP a8J lN NZ;go_wp2;go_end0;obtain⟨w8,EX⟩:∃ w8,w8=w7.setCell ⟨cb,0,yO⟩ (yC va (st.length+(kz.length+1)) vc):=⟨_,rfl⟩;rw [← EX];have b8:∀ i,i≠cb→w8.heap[i]?=w7.heap[i]?:=fun i hi=>by rw [EX];exact yl _ _ _ _ (by simpa using hi)
 have s8:w8.heap.size=w7.heap.size:=by rw [EX];simp only [World.setCell,Array.size_modify]
 have c8:w8.heap[cb]?=yP (yL #[yC va (st.length+(kz.length+1)) vc,yA ⟨#[]⟩,yA ⟨#[]⟩,yD true,yD false] 371):=by rw [EX];exact heap_setCell rA.o.2.2.2
 have hs7:=rA.o.2.1.size;have hYs:=H.o.ys;have xG:∀ i,i<W.heap.size→i≠cb→(yC sa st.length mX).ownBlock≠yP i→w8.heap[i]?=W.heap[i]?:=fun i hi h1 h2=>by
  rw [b8 i h1,rA.o.2.1.block i (by omega) (fun e=>h2 e.symm),I6.o.1.2.1.block i (by omega) (fun e=>by have e2:i=g2:=Option.some.inj e;omega),OD.o.block i hi]
 have hvY:∀ g,(yC va (st.length+(kz.length+1)) vc).ownBlock=yP g→(yC sa st.length mX).ownBlock=yP g∨W.heap.size≤g:=fun g hg=>by
  rcases rA.o.2.2.1 with e | e
  ·exact .inl (e.symm.trans hg)
  rw [hg] at e;cases e;exact .inr (by omega)
 have CJ:∀ g,(yC va (st.length+(kz.length+1)) vc).ownBlock=yP g→g≠cb:=fun g hg e=>by
  rcases hvY g hg with h | h
  ·rw [e] at h;exact aLA h
  omega
 refine⟨rfl,yC va (st.length+(kz.length+1)) vc,spread b ahead key ol d kz,aYM H.o c8 ?_ ?_ (fun i hi=>xG i (hYs i hi) (fun e=>by rw [e,H.o.yc] at hi;cases hi) (fun e=>by rw [H.o.yw i e] at hi;cases hi)) (by omega) (fun g hg=>?_) ?_,?_,?_,?_⟩
 ·rw [show (spread b ahead key ol d kz++st).length=st.length+(kz.length+1) by rw [yy,JR];omega,List.reverse_append,QL];exact cF rA.o.1 fun g hg=>b8 g (CJ g hg)
 ·intro x hx;rcases yx.1 hx with rfl | hx
  ·exact⟨fun e=>(by cases e),fun _=>⟨lab,has,val,kv,HNY.o,HE.o.1,by rw [HKEY.o];have:=HE.o.2.1;show key.size≤1000;omega,by rw [HKEY.o];exact HOL.o⟩⟩
  obtain⟨q,hq,rfl⟩:=zj.1 hx;exact⟨fun _=>⟨q.lab,HE.o.2.2.2.1 q hq⟩,fun e=>(by cases e)⟩
 ·rcases hvY g hg with h | h
  ·exact H.o.yw g h
  cases e:Y g with
  | false=>rfl
  | true=>have:=hYs g e;omega
 ·refine H.o.lev.kids hst (by have:=HE.o.2.1;omega) _ (fun x hx hx2=>?_) (by rw [JR];omega);rcases yx.1 hx with rfl | hx
  ·cases hx2
  obtain⟨q,hq,rfl⟩:=zj.1 hx;have:=HE.o.2.2.1 q hq;show d-q.lab.size+1≤d;omega
 ·refine (dR.refl cb _ Y W).more ?_ ?_ ?_ (by omega) (fun i hi h1 h2=>xG i hi h1 h2) (fun _ h=>.inl h) hvY;·rw [EX];exact rA.o.2.1.os.trans (I6.o.1.2.1.os.trans OD.o.os)
  ·rw [EX];exact rA.o.2.1.tape.trans (I6.o.1.2.1.tape.trans OD.o.tape)
  rw [EX];exact rA.o.2.1.output.trans (I6.o.1.2.1.output.trans OD.o.output)
 ·rw [aRF];exact HE.o.2.2.2.2.2.symm
 rw [aRG];have:=HE.o.2.2.2.2.1;omega
end
section
open Go.RowKit
theorem aF7 (x:Wk) (l:List Wk):dM (x::l).reverse=dM l.reverse ++ [ptr x.b,yA x.ahead,yD x.own]:=by
 rw [List.reverse_cons,QL];rfl
theorem A5 (l:List Wk):(dM l.reverse).length=l.length*3:=by rw [aF6,List.length_reverse]
theorem VK (x:Wk) (l:List Wk):(dM (x::l).reverse)[l.length*3]?=yP (ptr x.b)∧(dM (x::l).reverse)[l.length*3+1]?=yP (yA x.ahead)∧(dM (x::l).reverse)[l.length*3+2]?=yP (yD x.own):=by
 rw [aF7];refine⟨?_,?_,?_⟩;·rw [List.getElem?_append_right (by rw [A5];exact ye _),A5,Nat.sub_self];rfl
 ·rw [List.getElem?_append_right (by rw [A5];omega),A5,Nat.add_sub_cancel_left];rfl
 rw [List.getElem?_append_right (by rw [A5];omega),A5,Nat.add_sub_cancel_left];rfl
theorem aVE (x:Wk) (l:List Wk):(dM (x::l).reverse).take (l.length*3)=dM l.reverse:=by
 rw [aF7,List.take_append_of_le_length (by rw [A5];exact ye _),List.take_of_length_le (by rw [A5];exact ye _)]
theorem aLB {B:Nat} {Y:Nat→Bool} {wr W2:World} {cb g cap:Nat} {x:Wk} {tl:List Wk} (h:iV B Y wr cb (yC (yP ⟨g,0,yO⟩) (x::tl).length cap) (x::tl)) (z2:W2.heap[cb]?=yP (yL #[yC (yP ⟨g,0,yO⟩) tl.length cap,yA ⟨#[]⟩,yA ⟨#[]⟩,yD true,yD false] 371))
  (z4:∀ i,i<wr.heap.size→i≠cb→W2.heap[i]?=wr.heap[i]?) (z5:wr.heap.size≤W2.heap.size):iV B Y W2 cb (yC (yP ⟨g,0,yO⟩) tl.length cap) tl:=by
 have xQ:g≠cb:=fun e=>fR h.row h.c (by decide) (by rw [e];rfl);refine⟨z2,?_,fun y hy=>(h.wk y (by simp [hy])).sub (oT (fun i hi=>hi) fun i hi _=>z4 i (h.ys i hi) (fun e=>by rw [e,h.yc] at hi;cases hi)),h.yc,h.yw,fun i hi=>yi (h.ys i hi) z5,h.b,h.lev.2.2⟩;have h1:=WU (m:=tl.length) h.row (by simp);rw [aVE] at h1;exact cF h1 fun q hq=>by cases hq;exact z4 _ (h.row.lt g rfl).2 xQ
def a5R (B:Nat) (Y:Nat→Bool) (W:World) (cb:Nat) (sv:Value) (st:List Wk) (e:Ending) (W':World):Prop:=
 ∃ dP gK,iV B Y W' cb dP gK∧dR cb sv Y W dP Y W'∧
  ((jZ st=[]∧e = .returned (.tuple #[yF #[yA ⟨#[]⟩,yA ⟨#[]⟩],yD false]))∨
   ∃ p,jZ st=p::jZ gK∧e = .returned (.tuple #[yF #[yA p.1,yA p.2],yD true]))
theorem aVF (B:Nat) (Y:Nat→Bool) (W:World) (cb:Nat) (sv:Value) (st:List Wk) (h:iV B Y W cb sv st) (hBs:B≤W.heap.size) :
  Calls yM 215 #[yB (yP ⟨cb,0,yO⟩)] W (a5R B Y W cb sv st):=by
 have a8E:cb<W.heap.size:=h.lt;obtain⟨aA,hb⟩:=aW W (yL #[yA ⟨#[]⟩,yA ⟨#[]⟩] 52);have HA:=yN aA;have HB:=yN hb;have H:=yN h;clear h aA hb;go_enter func215,ntmps215;go_wp2_with fail;generalize W.alloc _=w1 at *;obtain⟨rb,aQ⟩:∃ rb,rb=W.heap.size:=⟨_,rfl⟩;rw [← aQ] at HB ⊢;have eT:=yN aQ
 have HY:Hid (Y rb=false):=yN (by
  cases e:Y rb with
  | false=>rfl
  | true=>have:=H.o.ys _ e;omega)
 clear aQ
 go_loopg [4] (nT st) (fun kx s4 wr=>∃ (dP:Value) (gK:List Wk),Hid (nT gK≤kx)∧Hid (iV B Y wr cb dP gK)∧Hid (dR cb sv Y W dP Y wr)∧Hid (jZ gK=jZ st)∧
  Hid (wr.heap[rb]?=yP (yL #[yA ⟨#[]⟩,yA ⟨#[]⟩] 52)))
 case atStart=>exact⟨sv,st,yN (ye _),yN (H.o.kept HA.o),yN (QK HA.o),yN rfl,HB⟩
 obtain⟨dP,gK,HM,HC,HS,sV,k8⟩:=hrel;have hcell:=HC.o.c;obtain⟨wa,gP,rfl⟩:=bW HC.o.row;have S9:=ch 0 hcell;cases gK with
 | nil=>
  have a0:=ch 0 k8.o;have af0:=fh 0 k8.o;have mC:=heap_setCell (o:=0) (v:=yA ⟨#[]⟩) k8.o;have a1:=ch 1 mC;have af1:=fh 1 mC;have NV:=heap_setCell (o:=1) (v:=yA ⟨#[]⟩) mC;have NW:=yN NV;have hne:cb≠rb:=by have:=eT.o;omega
  clear mC NV;go_wp2_with fail;refine bodyPost_ret (fK rfl rfl NW.o underlying52 rfl (by kernel_rfl)) rfl ?_;have hb2:∀ i,i≠rb→((wr.setCell ⟨rb,0,yO⟩ (yA ⟨#[]⟩)).setCell ⟨rb,1,yO⟩ (yA ⟨#[]⟩)).heap[i]?=wr.heap[i]?:=fun i hi=>by rw [yl _ _ _ _ (by simpa using hi),yl _ _ _ _ (by simpa using hi)]
  have hs2:((wr.setCell ⟨rb,0,yO⟩ (yA ⟨#[]⟩)).setCell ⟨rb,1,yO⟩ (yA ⟨#[]⟩)).heap.size=wr.heap.size:=by simp only [World.setCell,Array.size_modify]
  refine⟨_,[],HC.o.stays (fun i hi=>hb2 i (fun e=>?_)) (by omega),HS.o.more rfl rfl rfl (by omega) (fun i hi _ _=>hb2 i (by have:=eT.o;omega)) (fun _ h=>.inl h) (fun _ h=>.inl h),.inl ⟨sV.o.symm,rfl⟩⟩;subst e;rcases hi with hi | hi | hi
  ·rw [HY.o] at hi;cases hi
  ·exact hne hi.symm
  exact fR HC.o.row k8.o (by decide) hi
 | cons x tl=>
  obtain⟨g,cap,hwa⟩:=V3 HC.o.row;injection hwa with ZE _ a8F
  subst ZE;clear a8F cap;have aK6:=HC.o.lev.2.1;have r0:=gU HC.o.row (VK x tl).1;have r1:=gU HC.o.row (VK x tl).2.1;have r2:=gU HC.o.row (VK x tl).2.2;unfold ptr at r0;have c1:yH.wrap ((tl.length:Int)+1-1)=(tl.length:Int):=by rw [zk];omega
  have c2:(tl.length:Int)+1-1=(tl.length:Int):=by omega
  have c3:yH.wrap (tl.length:Int)=(tl.length:Int):=by rw [zk];omega
  have c4:(0:Int)≤(tl.length:Int)∧(tl.length:Int)<(tl.length:Int)+1:=by omega
  have iE:=aIK HC.o.row;rw [zh] at iE;have q1:(tl.length:Int)≤(gP:Int):=by omega
  have q2:(0:Int)≤(tl.length:Int):=by omega
  go_wp2_with fail;have aV:=yN (gB wr);refine jE (fun W:World=>W.cell? ⟨cb,0,yO⟩=yP (yC (yP ⟨g,0,yO⟩) (tl.length+1) gP)∧W.cell? ⟨g,tl.length*3,yO⟩=yP (yB (yP ⟨x.b,0,yO⟩))∧W.cell? ⟨g,tl.length*3+1,yO⟩=yP (yA x.ahead)∧W.cell? ⟨g,tl.length*3+2,yO⟩=yP (yD x.own)) 14 ⟨S9,r0,r1,r2⟩ fun HS=>?_;clear S9 r0 r1 r2;generalize wr.drew=wd at *;refine tH 0 HS ?_;refine tH 1 HS ?_;refine tH 2 HS ?_;refine tH 3 HS ?_;refine tH 4 HS ?_;refine tH 5 HS ?_;refine tH 6 HS ?_;refine tH 7 HS ?_;refine tH 8 HS ?_;refine tH 9 HS ?_;refine tH 10 HS ?_;refine tH 11 HS ?_;go_frame;have aA:=aZ wd (yL #[yB yO,yA ⟨#[]⟩,yD false] 373);obtain⟨hst,hb⟩:=aW wd (yL #[yB (yP ⟨x.b,0,yO⟩),yA x.ahead,yD x.own] 373);have hb0:=bM wd (yL #[yB yO,yA ⟨#[]⟩,yD false] 373);have sK:=yN (aD (aD (aD bL)) aA HS.o);have mN:=yN (aD (aD (aD bL)) hst HS.o);have HST:=yN hst;have xO:=yN hb;clear aA hst hb hb0;refine oH 12 fun K hK=>?_;go_simp;refine hK _ _ sK.o ?_;clear hK K HS;refine oH 13 fun K hK=>?_;go_simp;refine hK _ _ mN.o ?_;clear hK K sK;refine dA ?_;have bI:=yN (aB aV.o HST.o);have xF:=(bI.o.block cb HC.o.lt).trans hcell;have ZN:=yN xF;have ec5:=ch 0 xF;have fc5:=fh 0 xF;have es1:=ch 1 xF;have OA:=ch 2 xF;have es3:=ch 3 xF;clear aV HST xF mN;generalize wd.alloc _=w5 at *;obtain⟨xb,fP⟩:∃ xb,xb=wd.heap.size:=⟨_,rfl⟩;rw [← fP] at xO ⊢;have nJ:=yN (show xb<w5.heap.size from (yo.1 xO.o).1);clear fP;have uG:xb≠cb:=fun e=>by have h1:=xO.o;rw [e,ZN.o] at h1;cases h1
  have EY:(w5.setCell ⟨cb,0,yO⟩ (yC (yP ⟨g,0,yO⟩) tl.length gP)).heap[xb]?=yP (yL #[yB (yP ⟨x.b,0,yO⟩),yA x.ahead,yD x.own] 373):=(yl _ _ _ _ (by simpa using uG)).trans xO.o;have x0:=ch 0 EY;have x1:=ch 1 EY;have x2:=ch 2 EY;cases hown:x.own with
  | false=>
   rw [hown] at x2;go_wp2_with fail;go_region;go_wp2_with fail;obtain⟨w6,nE⟩:∃ w6,w6=(w5.setCell ⟨cb,0,yO⟩ (yC (yP ⟨g,0,yO⟩) tl.length gP)).drew:=⟨_,rfl⟩;rw [← nE];have b6:∀ i,i≠cb→w6.heap[i]?=w5.heap[i]?:=fun i hi=>by rw [nE];exact yl _ _ _ _ (by simpa using hi)
   have s6:w6.heap.size=w5.heap.size:=by rw [nE];simp only [World.drew,World.setCell,Array.size_modify]
   have c6:w6.heap[cb]?=yP (yL #[yC (yP ⟨g,0,yO⟩) tl.length gP,yA ⟨#[]⟩,yA ⟨#[]⟩,yD true,yD false] 371):=by rw [nE];exact heap_setCell ZN.o
   have hz5:=bI.o.size;have EZ:rb≠cb:=by have:=eT.o;omega
   have L6:=(yo.1 k8.o).1;have TF:=aLB HC.o c6 (fun i hi h=>(b6 i h).trans (bI.o.block i hi)) (by omega);have lN:dR cb sv Y W (yC (yP ⟨g,0,yO⟩) tl.length gP) Y w6:=HS.o.more (by rw [nE];exact bI.o.os) (by rw [nE];exact bI.o.tape) (by rw [nE];exact bI.o.output) (by omega) (fun i hi h _=>(b6 i h).trans (bI.o.block i (by have:=HS.o.size;omega))) (fun _ h=>.inl h) (fun q h=>.inl (by cases h;rfl));have hr6:w6.heap[rb]?=yP (yL #[yA ⟨#[]⟩,yA ⟨#[]⟩] 52):=((b6 rb EZ).trans (bI.o.block rb L6)).trans k8.o;have mR:=yN (yd TF (yd lN hr6))
   have vG:Hid (Sub (bO Y wr) (bO Y w6)):=yN (BG fun i h1 h2=>by
    have h3:i≠cb:=fun e=>by rw [e,HC.o.yc] at h1;cases h1
    exact⟨h1,(b6 _ h3).trans (bI.o.block _ h2)⟩)
   have E0:w6.heap[xb]?=yP (yL #[yB (yP ⟨x.b,0,yO⟩),yA x.ahead,yD x.own] 373):=(b6 xb uG).trans xO.o;rw [hown] at E0;have y0:=ch 0 E0;have y1:=ch 1 E0;clear b6 c6 TF lN hr6 nE E0 x0 x1 x2 EY ec5 fc5 es1 OA es3;obtain⟨lab,hrl⟩:=(HC.o.wk x (by simp)).all hown;refine (aYN B Y w6 cb _ tl x.b x.d x.n x.ahead lab x.l mR.o.1 (by have:=HS.o.size;omega) (hrl.sub vG.o) (by have:=HC.o.lev.1 hown;exact this)).mono ?_;rintro e w7 ⟨rfl,sv7,gZ,hc7,hs7,hr7,hm7⟩;have rA:=yN (yd hc7 (yd hs7 (yd hr7 hm7)));clear hc7 hs7 hr7 hm7 hrl;go_wp2;go_roundg (nT (gZ++tl));case measure=>
    have h1:=HM.o;have h2:=rA.o.2.2.2;have h3:x.meas=2*x.n:=by unfold Wk.meas;rw [hown];rfl
    rw [aVB];unfold nT at h1;omega
   refine⟨sv7,gZ++tl,yN (ye _),yN rA.o.1,yN (mR.o.2.1.trans rA.o.2.1),yN ?_,yN ((rA.o.2.1.same rb (yo.1 mR.o.2.2).1 EZ (fR mR.o.1.row mR.o.2.2 (by decide))).trans mR.o.2.2)⟩;rw [aVA,rA.o.2.2.1,← sV.o];rfl
  | true=>
   rw [hown] at x2;go_wp2_with fail;go_region;go_wp2_with fail;obtain⟨w6,nE⟩:∃ w6,w6=(w5.setCell ⟨cb,0,yO⟩ (yC (yP ⟨g,0,yO⟩) tl.length gP)).drew:=⟨_,rfl⟩;rw [← nE];have b6:∀ i,i≠cb→w6.heap[i]?=w5.heap[i]?:=fun i hi=>by rw [nE];exact yl _ _ _ _ (by simpa using hi)
   have s6:w6.heap.size=w5.heap.size:=by rw [nE];simp only [World.drew,World.setCell,Array.size_modify]
   have c6:w6.heap[cb]?=yP (yL #[yC (yP ⟨g,0,yO⟩) tl.length gP,yA ⟨#[]⟩,yA ⟨#[]⟩,yD true,yD false] 371):=by rw [nE];exact heap_setCell ZN.o
   have hz5:=bI.o.size;have EZ:rb≠cb:=by have:=eT.o;omega
   have L6:=(yo.1 k8.o).1;have TF:=aLB HC.o c6 (fun i hi h=>(b6 i h).trans (bI.o.block i hi)) (by omega);have lN:dR cb sv Y W (yC (yP ⟨g,0,yO⟩) tl.length gP) Y w6:=HS.o.more (by rw [nE];exact bI.o.os) (by rw [nE];exact bI.o.tape) (by rw [nE];exact bI.o.output) (by omega) (fun i hi h _=>(b6 i h).trans (bI.o.block i (by have:=HS.o.size;omega))) (fun _ h=>.inl h) (fun q h=>.inl (by cases h;rfl));have hr6:w6.heap[rb]?=yP (yL #[yA ⟨#[]⟩,yA ⟨#[]⟩] 52):=((b6 rb EZ).trans (bI.o.block rb L6)).trans k8.o;have mR:=yN (yd TF (yd lN hr6))
   have vG:Hid (Sub (bO Y wr) (bO Y w6)):=yN (BG fun i h1 h2=>by
    have h3:i≠cb:=fun e=>by rw [e,HC.o.yc] at h1;cases h1
    exact⟨h1,(b6 _ h3).trans (bI.o.block _ h2)⟩)
   have E0:w6.heap[xb]?=yP (yL #[yB (yP ⟨x.b,0,yO⟩),yA x.ahead,yD x.own] 373):=(b6 xb uG).trans xO.o;rw [hown] at E0;have y0:=ch 0 E0;have y1:=ch 1 E0;clear b6 c6 TF lN hr6 nE E0 x0 x1 x2 EY ec5 fc5 es1 OA es3;obtain⟨lab,has,val,kv,hnr,hval,hsz,hl⟩:=(HC.o.wk x (by simp)).own hown;have CK:=yN (hnr.sub (vG.o.trans (BB _ _)));have bHF:¬ 9223372036854775807<ByteArray.size x.ahead+ByteArray.size lab:=by rw [← eP];omega
   have HL:=yN hl;clear hnr hval hsz hl;have I4:=HS;have fI:=yN (gB w6);refine jE (fun W:World=>W.cell? ⟨xb,0,yO⟩=yP (yB (yP ⟨x.b,0,yO⟩))∧W.cell? ⟨xb,1,yO⟩=yP (yA x.ahead)) 7 ⟨y0,y1⟩ fun HS=>?_;clear y0 y1;generalize w6.drew=w7 at *;refine tH 0 HS ?_;refine tH 1 HS ?_;refine tH 2 HS ?_;refine tH 3 HS ?_;go_frame;refine oH 4 fun K hK=>?_;go_simp;refine (wX x.b lab val has kv w7 (CK.o.kept fI.o)).mono ?_;rintro e w' ⟨rfl,rfl⟩;refine hK _ _ HS.o ?_;clear hK K;refine oH 5 fun K hK=>?_;go_simp;refine hK _ _ HS.o ?_;clear hK K;refine oH 6 fun K hK=>?_;go_simp;refine hK _ _ HS.o ?_;clear hK K;refine dA ?_;have HS':=HS;clear HS;have HS:=I4;obtain⟨key,hkey⟩:∃ key,key=x.ahead++lab:=⟨_,rfl⟩;rw [← hkey] at HL ⊢;have y0:w7.cell? ⟨xb,0,yO⟩=yP (yB (yP ⟨x.b,0,yO⟩)):=HS'.o.1;clear hkey bHF;go_wp2_with fail;refine (QF x.b lab val has kv w7 (CK.o.kept fI.o)).mono ?_;rintro e w8 ⟨rfl,q,rfl⟩;have cX:=yN (show Kept w6 (w7.drewN q) from iC fI.o _);have IU:=yN (mR.o.1.kept cX.o);have es1:=ch 1 IU.o.c;have OA:=ch 2 IU.o.c;have es3:=ch 3 IU.o.c;cases has with
   | false=>
    go_wp2;go_roundg (nT tl);case measure=>
     have h1:=HM.o;have h3:x.meas=1:=by unfold Wk.meas;rw [hown];rfl
     unfold nT at h1;omega
    have ZO:=(yo.1 mR.o.2.2).1;refine⟨_,tl,yN (ye _),yN IU.o,yN (mR.o.2.1.trans (QK cX.o)),yN ?_,yN ((cX.o.block rb ZO).trans mR.o.2.2)⟩;rw [← sV.o];show jZ tl=x.l++jZ tl;rw [HL.o];rfl
   | true=>
    go_wp2_with fail;refine (a1C key _).mono ?_;rintro e w9 ⟨rfl,eZ⟩;have eO:=yN (aB cX.o eZ);have ZO:=(yo.1 mR.o.2.2).1;have TG:=(eO.o.block rb ZO).trans mR.o.2.2;have a0:=ch 0 TG;have af0:=fh 0 TG;have mC:=heap_setCell (o:=0) (v:=yA key) TG;have a1:=ch 1 mC;have af1:=fh 1 mC;have NV:=heap_setCell (o:=1) (v:=yA val) mC;have NW:=yN NV;have HR9:=yN TG;clear mC NV es1 OA es3 eZ TG;go_wp2_with fail;refine bodyPost_ret (fK rfl rfl NW.o underlying52 rfl (by kernel_rfl)) rfl ?_;have hb2:∀ i,i≠rb→((w9.setCell ⟨rb,0,yO⟩ (yA key)).setCell ⟨rb,1,yO⟩ (yA val)).heap[i]?=w9.heap[i]?:=fun i hi=>by rw [yl _ _ _ _ (by simpa using hi),yl _ _ _ _ (by simpa using hi)]
    have hs2:((w9.setCell ⟨rb,0,yO⟩ (yA key)).setCell ⟨rb,1,yO⟩ (yA val)).heap.size=w9.heap.size:=by simp only [World.setCell,Array.size_modify]
    have hc9:=mR.o.1.kept eO.o;refine⟨_,tl,hc9.stays (fun i hi=>hb2 i (fun e=>?_)) (by omega),(mR.o.2.1.trans (QK eO.o)).more rfl rfl rfl (by omega) (fun i hi _ _=>hb2 i (by have:=eT.o;omega)) (fun _ h=>.inl h) (fun _ h=>.inl h),.inr ⟨(key,val),?_,rfl⟩⟩
    ·subst e;rcases hi with hi | hi | hi
     ·rw [HY.o] at hi;cases hi
     ·exact EZ hi
     exact fR hc9.row HR9.o (by decide) hi
    rw [← sV.o];show x.l++jZ tl=_;rw [HL.o];rfl
end
section
open Go.RowKit
attribute [local irreducible] look
variable {sv v:Value} {x y z:Int} {sb B:Nat} {W W' w V:World} {l:List Pr}
structure jD (B:Nat) (W:World) (sb:Nat) (x y z:Int) (sv:Value) (l:List Cg):Prop where
 c:W.heap[sb]?=yP (yL #[yE yJ x,yE yJ y,yE yJ z,sv] 279)
 row:W.ownsRow B 109 5 sv l.length (oY l)
 b:B≤sb
theorem jD.lt {l:List Cg} (h:jD B W sb x y z sv l):sb<W.heap.size:=(yo.1 h.c).1
theorem jD.kept {l:List Cg} (h:jD B W sb x y z sv l) (hk:Kept W W'):jD B W' sb x y z sv l:=
 ⟨(hk.block sb h.lt).trans h.c,bT h.row hk,h.b⟩
theorem jD.ne {l:List Cg} (h:jD B W sb x y z sv l):sv.ownBlock≠yP sb:=fR h.row h.c (by decide)
abbrev eH (sb:Nat) (W:World) (sv:Value) (W':World) (dP:Value):Prop:=dR sb sv (fun _=>false) W dP (fun _=>false) W'
theorem eH.kept (h:Kept W W'):eH sb W sv W' sv:=
 ⟨h.os,h.tape,h.output,h.size,fun i hi _ _=>h.block i hi,fun _ h=>.inl h,fun _ h=>.inl h⟩
theorem eH.below {dP:Value} {l:List Cg} (h:eH sb W sv W' dP) (hs:jD B W sb x y z sv l):Below B W W':=
 ⟨h.os,h.tape,h.output,h.size,fun i hi=>h.same i (by have:=hs.b;have:=hs.lt;omega) (by have:=hs.b;omega) (fun e=>by have:=(hs.row.lt i e).1;omega)⟩
theorem WI {W2 W6:World} {v':Value} {l:List Cg} (c:Cg) (h:jD B W sb x y z sv l) (k1:Kept W W2) (hown:W6.ownsRow B 109 5 v' (l.length+1) (oY l ++ [yA c.key,yA c.old,yA c.new,yD c.was,yD c.is])) (hg:W2.grownBy W6 sv.ownBlock)
  (fU:v'.ownBlock=sv.ownBlock∨v'.ownBlock=yP W2.heap.size):jD B (W6.setCell ⟨sb,3,yO⟩ v') sb x y z v' (l ++ [c])∧eH sb W sv (W6.setCell ⟨sb,3,yO⟩ v') v':=by
 have hl:=h.lt;have hs2:=k1.size;have kY:=hg.size;have hc2:=(k1.block sb hl).trans h.c;have jS:=(hg.block sb (by omega) (fun e=>h.ne e.symm)).trans hc2;have hc7:=heap_setCell (o:=3) (v:=v') jS;have ho:∀ i,i≠sb→(W6.setCell ⟨sb,3,yO⟩ v').heap[i]?=W6.heap[i]?:=fun i hi=>yl _ _ _ _ (by simpa using hi);have hsz:(W6.setCell ⟨sb,3,yO⟩ v').heap.size=W6.heap.size:=by simp only [World.setCell,Array.size_modify]
 refine⟨⟨hc7,?_,h.b⟩,⟨hg.os.trans k1.os,hg.tape.trans k1.tape,hg.output.trans k1.output,by omega,fun i hi h1 h2=>?_,fun _ h=>.inl h,fun g cS=>?_⟩⟩
 ·rw [yy,aVX];refine cF hown fun g cS=>ho g fun e=>?_;subst e;rcases fU with e | e
  ·exact h.ne (e.symm.trans cS)
  rw [cS] at e;have:=Option.some.inj e;omega
 ·rw [ho i h1,hg.block i (by omega) (fun e=>h2 e.symm),k1.block i hi]
 rcases fU with e | e
 ·exact .inl (e.symm.trans cS)
 rw [cS] at e;have:=Option.some.inj e;exact .inr (by omega)
theorem a1R:(yM.info? 109).map (fun i=>(i.zero,i.size,i.bytes))=yP (yP (yF #[yA yj,yA yj,yA yj,yD false,yD false]),5,56):=by kernel_rfl
theorem UM (w:World) (a b c d e:Value) (t:TypeId):∀ j u,[a,b,c,d,e][j]?=yP u→(w.alloc (yL #[a,b,c,d,e] t)).cell? ((⟨w.heap.size,0,yO⟩:Addr).add j)=yP u:=by
 intro j u hj;rw [Addr.add_lit];refine aG (bM w _) ?_;rw [Nat.zero_add];simpa using hj
theorem WY {p:Pr} (h:Rd V v (p::l).length (aK (p::l))) {T:Nat→Prop} (hs:∀ q u,V.cell? q=yP u→w.cell? q=yP u∧T q.block):∃ g off cap,v=yC (yP ⟨g,off,yO⟩) (l.length+1) cap∧l.length+1≤cap∧cap≤maxLen∧T g∧w.cell? ⟨g,off,yO⟩=yP (yA p.1)∧w.cell? ⟨g,off+1,yO⟩=yP (yA p.2)∧
  Hid (Rd V (yC (yP ⟨g,off+2,yO⟩) l.length (cap-1)) l.length (aK l)):=by
 rcases h with ⟨_,_,_,_,h,_⟩ | ⟨g,off,cap,rfl,h1,h2,_,hc⟩
 ·cases h
 refine⟨g,off,cap,rfl,h1,h2,(hs _ _ (hc 0 _ rfl)).2,(hs _ _ (hc 0 _ rfl)).1,(hs _ _ (hc 1 _ rfl)).1,yN ?_⟩;exact P7 (k:=2) hc (by rw [lG];rfl) h1 h2
theorem GW {a:Option Addr} (h:l.length=0):Rd V (yC a 0 0) l.length (aK l):=by
 have e:l=[]:=List.eq_nil_of_length_eq_zero h;subst e;exact .inl ⟨_,_,rfl,by unfold maxLen;omega,rfl,rfl⟩
theorem lF (w:World) (q:Nat):Kept w (w.drewN q):=⟨rfl,rfl,rfl,ye _,fun _ _=>rfl⟩
theorem RN {X:Nat→Bool} {k:Nat} {e:TypeId} {n:Nat} {cs:List Value} (h:w.ownsRow B e k v n cs) (hX:∀ i,v.ownBlock=yP i→X i=true):Rd (bO X w) v n cs:=by
 rcases dH h with h1 | ⟨g,off,cap,rfl,h2,h3,h4,h5⟩
 ·exact .inl h1
 exact .inr ⟨g,off,cap,rfl,h2,h3,h4,fun j u hj=>(by
  have vU:(yC (yP ⟨g,off,yO⟩) n cap).ownBlock=yP g:=by
   rcases h.2 with ⟨e,_⟩ | ⟨g',cap',_,e,_⟩
   ·cases e
   cases e;rfl
  exact C6 (hX g vU) (h5 j u hj))⟩
def KZ (B:Nat) (W:World) (sb:Nat) (x y z:Int) (sv:Value) (l:List Cg) (f g:Mp) (e:Ending) (W':World):Prop:=
 e = .returned (.tuple #[])∧∃ dP m,jD B W' sb x y z dP (l++m)∧eH sb W sv W' dP∧DL f g m
theorem aY7 (B:Nat) (X:Nat→Bool) (W:World) (sb:Nat) (x y z:Int) (sv:Value) (l:List Cg) (va vb:Value) (la lb:List Pr) (hS:jD B W sb x y z sv l) (hX:∀ i,X i=true→i<W.heap.size∧i≠sb∧sv.ownBlock≠yP i)
  (ha:Rd (bO X W) va la.length (aK la)) (hb:Rd (bO X W) vb lb.length (aK lb)) (hra:bR la) (aQ:bR lb) (hl:l.length+la.length+lb.length≤1000000) :
  Calls yM 259 #[yB (yP ⟨sb,0,yO⟩),va,vb] W (KZ B W sb x y z sv l (look la) (look lb)):=by
 obtain⟨i0,bS,hz0,hzs,hzb⟩:=info_parts a1R;have HX:=yN hX;have sY:=yN hS;have jT:=yN ha;have lA:=yN hb;have HRi:=yN (yd hra aQ);have HL:=yN hl;clear hX hS ha hb hra aQ hl;go_enter func259,ntmps259;go_wp2_with fail
 go_loopg [1,2] (la.length+lb.length) (fun kx s1 s2 wr=>∃ (v1 v2:Value) (pa pb:List Pr) (dP:Value) (m:List Cg),v1=s1∧v2=s2∧pa.length+pb.length≤kx∧Hid (Rd (bO X W) v1 pa.length (aK pa))∧Hid (Rd (bO X W) v2 pb.length (aK pb))∧Hid (bR pa∧bR pb)∧Hid (jD B wr sb x y z dP (l++m))∧Hid (eH sb W sv wr dP)∧
  Hid (∀ r,DL (look pa) (look pb) r→DL (look la) (look lb) (m++r))∧Hid (m.length+pa.length+pb.length≤la.length+lb.length))
 case atStart=>exact⟨_,_,la,lb,sv,[],rfl,rfl,ye _,jT,lA,HRi,yN (by rw [zi];exact sY.o),yN (dR.refl _ _ _ _),yN (fun r h=>h),yN (by simp)⟩
 obtain⟨v1,v2,pa,pb,dP,m,rfl,rfl,hm,HA,HB,HR,cZ,HST,HD,HN⟩:=hrel;have j4:∀ q u,(bO X W).cell? q=yP u→wr.cell? q=yP u∧X q.block=true:=fun q u hq=>by
  obtain⟨h1,h2⟩:=GI hq;obtain⟨a1,a2,a3⟩:=HX.o _ h1;exact⟨(zn (HST.o.same _ a1 a2 a3)).trans h2,h1⟩
 have vG:=yN j4
 have tE:Hid (∀ g,X g=true→dP.ownBlock≠yP g):=yN (fun g hg e=>by
  obtain⟨a1,a2,a3⟩:=HX.o g hg;rcases HST.o.way g e with h | h
  ·exact a3 h
  omega)
 clear j4;rcases pa with _ | ⟨p,pa⟩
 focus
  rcases pb with _ | ⟨q,pb⟩
  focus
   obtain⟨ga,ca,rfl⟩:∃ a c,v1=yC a 0 c:=HA.o.shape;obtain⟨gb,cb,rfl⟩:∃ a c,v2=yC a 0 c:=HB.o.shape;go_wp2_with fail;go_end0;refine⟨rfl,dP,m,cZ.o,HST.o,?_⟩;have:=HD.o [] (DL.same _)
   rwa [zi] at this
  obtain⟨ga,ca,rfl⟩:∃ a c,v1=yC a 0 c:=HA.o.shape;obtain⟨gb,ob,cb,rfl,qb1,qb2,TU,f0,f1,nY⟩:=WY (T:=fun i=>X i=true) HB.o vG.o;have E9:((0:Int)<(pb.length:Int)+1):=by omega
  have FA:decide ((pb.length:Int)+1=0)=false:=decide_eq_false (by omega);have zb2:decide ((0:Int)<(pb.length:Int)+1)=true:=decide_eq_true E9;have zb3:((pb.length:Int)+1 == 0)=false:=by simpa using FA
  have HGT:Hid (∀ u∈([]:List Pr),lt q.1 u.1=true):=yN (fun u hu=>by cases hu);go_wp2_with fail;go_quiet (fail);have hq:Kept wr (wr.drewN nq):=lF _ _;have lK:=yN (cZ.o.kept hq);have lO:=yN (HST.o.trans (eH.kept hq));have pV:=hq.cell f0;have pW:=hq.cell f1;clear hq cZ HST f0 f1;generalize wr.drewN nq=wr at *;have cZ:=lK;have HST:=lO;have f0:=pV;have f1:=pW;clear lK lO pV pW;go_wp2_with fail;go_quiet (fail);have hq:Kept wr (wr.drewN nq):=lF _ _;have lK:=yN (cZ.o.kept hq);have lO:=yN (HST.o.trans (eH.kept hq));have pV:=hq.cell f0;have pW:=hq.cell f1;clear hq cZ HST f0 f1;generalize wr.drewN nq=wr at *;have cZ:=lK;have HST:=lO;have f0:=pV;have f1:=pW;clear lK lO pV pW;go_wp2_with fail;generalize yC ga 0 ca=v1 at *;generalize ([]:List Pr)=pa at *
 rotate_left
 focus
  obtain⟨ga,oa,ca,rfl,qa1,qa2,TV,e0,e1,CQ⟩:=WY (T:=fun i=>X i=true) HA.o vG.o;have za0:((0:Int)<(pa.length:Int)+1):=by omega
  have za1:decide ((pa.length:Int)+1=0)=false:=decide_eq_false (by omega);have za2:decide ((0:Int)<(pa.length:Int)+1)=true:=decide_eq_true za0;have za3:((pa.length:Int)+1 == 0)=false:=by simpa using za1
  rcases pb with _ | ⟨q,pb⟩
  focus
   obtain⟨gb,cb,rfl⟩:∃ a c,v2=yC a 0 c:=HB.o.shape;have oJ:Hid (∀ u∈([]:List Pr),lt p.1 u.1=true):=yN (fun u hu=>by cases hu);go_wp2_with fail;go_quiet (fail);have hq:Kept wr (wr.drewN nq):=lF _ _;have lK:=yN (cZ.o.kept hq);have lO:=yN (HST.o.trans (eH.kept hq));have tF:=hq.cell e0;have wK:=hq.cell e1;clear hq cZ HST e0 e1;generalize wr.drewN nq=wr at *;have cZ:=lK;have HST:=lO;have e0:=tF;have e1:=wK;clear lK lO tF wK;go_wp2_with fail;generalize yC gb 0 cb=v2 at *;generalize ([]:List Pr)=pb at *
  rotate_left
  focus
   obtain⟨gb,ob,cb,rfl,qb1,qb2,TU,f0,f1,nY⟩:=WY (T:=fun i=>X i=true) HB.o vG.o;have E9:((0:Int)<(pb.length:Int)+1):=by omega
   have FA:decide ((pb.length:Int)+1=0)=false:=decide_eq_false (by omega);have zb2:decide ((0:Int)<(pb.length:Int)+1)=true:=decide_eq_true E9;have zb3:((pb.length:Int)+1 == 0)=false:=by simpa using FA
   have hpq:=X3 p.1 q.1;have TW:=X3 q.1 p.1;by_cases h1:lt p.1 q.1=true
   focus
    rw [h1] at hpq
    have oJ:Hid (∀ u∈q::pb,lt p.1 u.1=true):=yN (fun u hu=>by
     rcases yx.1 hu with rfl | hu
     ·exact h1
     exact lt_trans h1 ((yz.1 HR.o.2).1 u hu))
    go_wp2_with fail;go_quiet (fail);have hq:Kept wr (wr.drewN nq):=lF _ _;have lK:=yN (cZ.o.kept hq);have lO:=yN (HST.o.trans (eH.kept hq));have tF:=hq.cell e0;have wK:=hq.cell e1;clear hq cZ HST e0 e1;generalize wr.drewN nq=wr at *;have cZ:=lK;have HST:=lO;have e0:=tF;have e1:=wK;clear lK lO tF wK;go_wp2_with fail;clear f0 f1 E9 FA zb2 zb3 hpq TW;generalize yC (yP ⟨gb,ob,yO⟩) (pb.length+1) cb=v2 at *;generalize q::pb=pb at *
   rotate_left
   focus
    have qX:lt p.1 q.1=false:=by simpa using h1
    rw [qX] at hpq;by_cases h2:lt q.1 p.1=true;rotate_left
    focus
     have uF:lt q.1 p.1=false:=by simpa using h2
     rw [uF] at TW;have TX:=yN (aEJ qX uF);go_wp2_with fail;go_quiet (fail);have hq:Kept wr (wr.drewN nq):=lF _ _;have lK:=yN (cZ.o.kept hq);have lO:=yN (HST.o.trans (eH.kept hq));have tF:=hq.cell e0;have wK:=hq.cell e1;have pV:=hq.cell f0;have pW:=hq.cell f1;clear hq cZ HST e0 e1 f0 f1;generalize wr.drewN nq=wr at *;have cZ:=lK;have HST:=lO;have e0:=tF;have e1:=wK;have f0:=pV;have f1:=pW;clear lK lO tF wK pV pW;go_wp2_with fail;go_quiet (fail);have hq:Kept wr (wr.drewN nq):=lF _ _;have lK:=yN (cZ.o.kept hq);have lO:=yN (HST.o.trans (eH.kept hq));have tF:=hq.cell e0;have wK:=hq.cell e1;have pV:=hq.cell f0;have pW:=hq.cell f1;clear hq cZ HST e0 e1 f0 f1;generalize wr.drewN nq=wr at *;have cZ:=lK;have HST:=lO;have e0:=tF;have e1:=wK;have f0:=pV;have f1:=pW;clear lK lO tF wK pV pW;go_wp2_with fail;have hv:=qJ p.2 q.2;by_cases h3:p.2=q.2
     ·rw [decide_eq_true h3] at hv;have FB:∀ r,DL (look pa) (look pb) r→DL (look la) (look lb) (m++r):=fun r hr=>by
       have:=HD.o _ (aGA HR.o.1 HR.o.2 TX.o hr)
       rwa [if_pos h3,List.nil_append] at this
      have HF:=yN (yd FB (yd (yz.1 HR.o.1).2 (yz.1 HR.o.2).2));clear FB;go_quiet (fail);have hq:Kept wr (wr.drewN nq):=lF _ _;have lK:=yN (cZ.o.kept hq);have lO:=yN (HST.o.trans (eH.kept hq));have tF:=hq.cell e0;have wK:=hq.cell e1;have pV:=hq.cell f0;have pW:=hq.cell f1;clear hq cZ HST e0 e1 f0 f1;generalize wr.drewN nq=wr at *;have cZ:=lK;have HST:=lO;have e0:=tF;have e1:=wK;have f0:=pV;have f1:=pW;clear lK lO tF wK pV pW;have TY:(1:Int)≤(pa.length:Int)+1:=by omega
      have TZ:(1:Int)≤(ca:Int):=by omega
      have T1:(pa.length:Int)+1≤(ca:Int):=by omega
      have T2:(1:Int)≤(pb.length:Int)+1:=by omega
      have T3:(1:Int)≤(cb:Int):=by omega
      have T4:(pb.length:Int)+1≤(cb:Int):=by omega
      by_cases pX:ca=1
      focus
       subst pX;have xW:Hid (pa.length=0):=yN (by omega)
      rotate_left;have T5:¬ (ca-1=0):=by omega
      all_goals
       by_cases hcb:cb=1
       focus
        subst hcb;have wL:Hid (pb.length=0):=yN (by omega)
       rotate_left;have OZ:¬ (cb-1=0):=by omega
       all_goals
        go_wp2_with fail;go_region;go_wp2_with fail;go_roundg (pa.length+pb.length);case measure=>simp at hm ⊢;omega
        exact⟨_,_,pa,pb,_,m,rfl,rfl,ye _,yN (by first | exact GW xW.o | exact CQ.o),yN (by first | exact GW wL.o | exact nY.o),yN HF.o.2,yN ((cZ).out.kept (ym (yk _ _))),yN ((HST).out.trans (eH.kept (ym (yk _ _)))),yN HF.o.1,yN (by have:=HN.o;simp at this ⊢;omega)⟩
     rw [decide_eq_false h3] at hv;have FB:∀ r,DL (look pa) (look pb) r→DL (look la) (look lb) (m ++ [⟨p.1,p.2,q.2,true,true⟩]++r):=fun r hr=>by
      have:=HD.o _ (aGA HR.o.1 HR.o.2 TX.o hr)
      rwa [if_neg h3,← zf] at this
     have HF:=yN (yd FB (yd (yz.1 HR.o.1).2 (yz.1 HR.o.2).2));clear FB;go_quiet (fail);have hq:Kept wr (wr.drewN nq):=lF _ _;have lK:=yN (cZ.o.kept hq);have lO:=yN (HST.o.trans (eH.kept hq));have tF:=hq.cell e0;have wK:=hq.cell e1;have pV:=hq.cell f0;have pW:=hq.cell f1;clear hq cZ HST e0 e1 f0 f1;generalize wr.drewN nq=wr at *;have cZ:=lK;have HST:=lO;have e0:=tF;have e1:=wK;have f0:=pV;have f1:=pW;clear lK lO tF wK pV pW;go_wp2_with fail;obtain⟨L,hL⟩:∃ L,L=l++m:=⟨_,rfl⟩;rw [← hL] at cZ;have E3:=yN hL;have CR:=congrArg List.length hL;rw [yy] at CR;have CS:=yN CR;clear hL CR;have iU:=cZ.o;obtain⟨sa,mX,rfl⟩:=bW iU.row;have es:=ch 3 iU.c;clear iU;have aV:=yN (gB wr);refine cP (fun W:World=>W.cell? ⟨sb,3,yO⟩=yP (yC sa L.length mX)∧W.cell? ⟨ga,oa,yO⟩=yP (yA p.1)∧W.cell? ⟨ga,oa+1,yO⟩=yP (yA p.2)∧W.cell? ⟨gb,ob+1,yO⟩=yP (yA q.2)) 22 23 ⟨es,e0,e1,f1⟩ fun HS=>?_;clear es;generalize wr.drew=w2 at *;refine tM 0 HS ?_;refine tM 1 HS ?_;refine tM 2 HS ?_;refine tM 3 HS ?_;refine lM 4 HS ?_;refine tM 5 HS ?_;refine tM 6 HS ?_;refine tM 7 HS ?_;refine lM 8 HS ?_;refine tM 9 HS ?_;refine tM 10 HS ?_;refine tM 11 HS ?_;refine lM 12 HS ?_;refine tM 13 HS ?_;refine tM 14 HS ?_;refine tM 15 HS ?_;refine lM 16 HS ?_;refine tM 17 HS ?_;go_frame;refine oM 18 fun K hK=>?_;go_simp;have aA:=aZ w2 (yL #[yA p.1,yA p.2,yA q.2,yD true,yD true] 109);have cA:=yN aA;have aF:=yN (aD (aD (aD bL)) aA HS.o);refine hK _ _ (.inr aF.o) ?_;clear hK K HS aA;have HS:=aF;clear aF;have iD:=(cZ.o.kept aV.o).kept cA.o;have kN:=yN iD;have hrow:=iD.row;have iH:=UM w2 (yA p.1) (yA p.2) (yA q.2) (yD true) (yD true) 109;have h1c:∀ u∈[yA p.1,yA p.2,yA q.2,Value.bool true,Value.bool true],u.oneCell'=true:=by intro u hu;simp at hu;rcases hu with rfl | rfl | rfl | rfl | rfl <;> rfl
     have hln:=HL.o;have j7:=HN.o;simp at j7;have hmx:L.length+1≤maxLen:=by have:=CS.o;unfold maxLen;omega
     have AE:(L.length+1)*56≤140737488355328:=by have:=CS.o;omega
     have hZ:B≤(w2.alloc (yL #[yA p.1,yA p.2,yA q.2,yD true,yD true] 109)).heap.size:=by have:=kN.o.lt;have:=kN.o.b;omega
     refine oM 19 fun K hK=>?_;refine (if_pos (show Region.wanted _ _=true from rfl)).mpr ?_;refine A2 _ _ 36 rfl B 109 i0 (yF #[yA yj,yA yj,yA yj,yD false,yD false]) 5 56 underlying36 bS hz0 hzs hzb rfl (by decide) _ _ _ rfl hrow ⟨w2.heap.size,0,yO⟩ 1 1 [yA p.1,yA p.2,yA q.2,yD true,yD true] rfl rfl iH h1c hmx AE hZ ?_;intro v' w6 hown hgrow fU;obtain⟨va6,vc6,rfl⟩:=bW hown;have kY:(fun W:World=>W.cell? ⟨sb,3,yO⟩=yP (yC sa L.length mX)∧W.cell? ⟨ga,oa,yO⟩=yP (yA p.1)∧W.cell? ⟨ga,oa+1,yO⟩=yP (yA p.2)∧W.cell? ⟨gb,ob+1,yO⟩=yP (yA q.2)) w6:=⟨eG hgrow HS.o.1 (fun e=>kN.o.ne e.symm),eG hgrow HS.o.2.1 (fun e=>tE.o _ TV e.symm),eG hgrow HS.o.2.2.1 (fun e=>tE.o _ TV e.symm),eG hgrow HS.o.2.2.2 (fun e=>tE.o _ TU e.symm)⟩;refine hK _ _ (.inr kY) ?_;clear hK K;have hs2:w2.heap.size<(w2.alloc (yL #[yA p.1,yA p.2,yA q.2,yD true,yD true] 109)).heap.size:=by simp
     have jS:=(hgrow.block sb kN.o.lt (fun e=>kN.o.ne e.symm)).trans kN.o.c;have NZ:=ch 3 jS;have TA:=fh 3 jS;have HE:=yN (WI ⟨p.1,p.2,q.2,true,true⟩ cZ.o (aB aV.o cA.o) hown hgrow (fU.imp (fun h=>h) fun h=>h));clear hown hgrow fU iH h1c hZ AE hmx jS iD hrow hs2 HS;have HS:=yN kY;clear kY;refine tM 20 HS ?_;refine tM 21 HS ?_;go_frame;refine oM 22 fun K hK=>?_;go_simp;refine hK _ _ aX ?_;clear hK K;refine cM ?_;generalize w6.setCell _ _=w7 at *;clear NZ TA;have CU:=HE.o.1;rw [show ∀ c:Cg,L ++ [c]=l++(m ++ [c]) from fun c=>by rw [E3.o,zf]] at CU;have HE1:=yN CU;clear CU;have TY:(1:Int)≤(pa.length:Int)+1:=by omega
     have TZ:(1:Int)≤(ca:Int):=by omega
     have T1:(pa.length:Int)+1≤(ca:Int):=by omega
     have T2:(1:Int)≤(pb.length:Int)+1:=by omega
     have T3:(1:Int)≤(cb:Int):=by omega
     have T4:(pb.length:Int)+1≤(cb:Int):=by omega
     by_cases pX:ca=1
     focus
      subst pX;have xW:Hid (pa.length=0):=yN (by omega)
     rotate_left;have T5:¬ (ca-1=0):=by omega
     all_goals
      by_cases hcb:cb=1
      focus
       subst hcb;have wL:Hid (pb.length=0):=yN (by omega)
      rotate_left;have OZ:¬ (cb-1=0):=by omega
      all_goals
       go_wp2_with fail;go_region;go_wp2_with fail;go_roundg (pa.length+pb.length);case measure=>simp at hm ⊢;omega
       exact⟨_,_,pa,pb,_,m ++ [⟨p.1,p.2,q.2,true,true⟩],rfl,rfl,ye _,yN (by first | exact GW xW.o | exact CQ.o),yN (by first | exact GW wL.o | exact nY.o),yN HF.o.2,yN ((HE1).out.kept (ym (yk _ _))),yN ((yN (HST.o.trans HE.o.2)).out.trans (eH.kept (ym (yk _ _)))),yN HF.o.1,yN (by have:=HN.o;simp at this ⊢;omega)⟩
    rw [h2] at TW
    have HGT:Hid (∀ u∈p::pa,lt q.1 u.1=true):=yN (fun u hu=>by
     rcases yx.1 hu with rfl | hu
     ·exact h2
     exact lt_trans h2 ((yz.1 HR.o.1).1 u hu))
    go_wp2_with fail;go_quiet (fail);have hq:Kept wr (wr.drewN nq):=lF _ _;have lK:=yN (cZ.o.kept hq);have lO:=yN (HST.o.trans (eH.kept hq));have tF:=hq.cell e0;have pV:=hq.cell f0;have pW:=hq.cell f1;clear hq cZ HST e0 f0 f1;generalize wr.drewN nq=wr at *;have cZ:=lK;have HST:=lO;have e0:=tF;have f0:=pV;have f1:=pW;clear lK lO tF pV pW;go_wp2_with fail;go_quiet (fail);have hq:Kept wr (wr.drewN nq):=lF _ _;have lK:=yN (cZ.o.kept hq);have lO:=yN (HST.o.trans (eH.kept hq));have pV:=hq.cell f0;have pW:=hq.cell f1;clear hq cZ HST f0 f1;generalize wr.drewN nq=wr at *;have cZ:=lK;have HST:=lO;have f0:=pV;have f1:=pW;clear lK lO pV pW;go_wp2_with fail;clear e1 za0 za1 za2 za3 hpq TW;generalize yC (yP ⟨ga,oa,yO⟩) (pa.length+1) ca=v1 at *;generalize p::pa=pa at *
  rotate_left
 all_goals
  first
  |have _g:=oJ
   clear _g;obtain⟨L,hL⟩:∃ L,L=l++m:=⟨_,rfl⟩;rw [← hL] at cZ;have E3:=yN hL;have CR:=congrArg List.length hL;rw [yy] at CR;have CS:=yN CR;clear hL CR;have iU:=cZ.o;obtain⟨sa,mX,rfl⟩:=bW iU.row;have es:=ch 3 iU.c;clear iU;have aV:=yN (gB wr);refine cP (fun W:World=>W.cell? ⟨sb,3,yO⟩=yP (yC sa L.length mX)∧W.cell? ⟨ga,oa,yO⟩=yP (yA p.1)∧W.cell? ⟨ga,oa+1,yO⟩=yP (yA p.2)) 18 19 ⟨es,e0,e1⟩ fun HS=>?_;clear es;generalize wr.drew=w2 at *;refine tM 0 HS ?_;refine tM 1 HS ?_;refine tM 2 HS ?_;refine tM 3 HS ?_;refine lM 4 HS ?_;refine tM 5 HS ?_;refine tM 6 HS ?_;refine tM 7 HS ?_;refine lM 8 HS ?_;refine tM 9 HS ?_;refine tM 10 HS ?_;refine tM 11 HS ?_;refine lM 12 HS ?_;refine tM 13 HS ?_;go_frame;refine oM 14 fun K hK=>?_;go_simp;have aA:=aZ w2 (yL #[yA p.1,yA p.2,yA ⟨#[]⟩,yD true,yD false] 109);have cA:=yN aA;have aF:=yN (aD (aD bL) aA HS.o);refine hK _ _ (.inr aF.o) ?_;clear hK K HS aA;have HS:=aF;clear aF;have iD:=(cZ.o.kept aV.o).kept cA.o;have kN:=yN iD;have hrow:=iD.row;have iH:=UM w2 (yA p.1) (yA p.2) (yA ⟨#[]⟩) (yD true) (yD false) 109;have h1c:∀ u∈[yA p.1,yA p.2,yA ⟨#[]⟩,Value.bool true,Value.bool false],u.oneCell'=true:=by intro u hu;simp at hu;rcases hu with rfl | rfl | rfl | rfl | rfl <;> rfl
   have hln:=HL.o;have j7:=HN.o;simp at j7;have hmx:L.length+1≤maxLen:=by have:=CS.o;unfold maxLen;omega
   have AE:(L.length+1)*56≤140737488355328:=by have:=CS.o;omega
   have hZ:B≤(w2.alloc (yL #[yA p.1,yA p.2,yA ⟨#[]⟩,yD true,yD false] 109)).heap.size:=by have:=kN.o.lt;have:=kN.o.b;omega
   refine oM 15 fun K hK=>?_;refine (if_pos (show Region.wanted _ _=true from rfl)).mpr ?_;refine A2 _ _ 36 rfl B 109 i0 (yF #[yA yj,yA yj,yA yj,yD false,yD false]) 5 56 underlying36 bS hz0 hzs hzb rfl (by decide) _ _ _ rfl hrow ⟨w2.heap.size,0,yO⟩ 1 1 [yA p.1,yA p.2,yA ⟨#[]⟩,yD true,yD false] rfl rfl iH h1c hmx AE hZ ?_;intro v' w6 hown hgrow fU;obtain⟨va6,vc6,rfl⟩:=bW hown;have kY:(fun W:World=>W.cell? ⟨sb,3,yO⟩=yP (yC sa L.length mX)∧W.cell? ⟨ga,oa,yO⟩=yP (yA p.1)∧W.cell? ⟨ga,oa+1,yO⟩=yP (yA p.2)) w6:=⟨eG hgrow HS.o.1 (fun e=>kN.o.ne e.symm),eG hgrow HS.o.2.1 (fun e=>tE.o _ TV e.symm),eG hgrow HS.o.2.2 (fun e=>tE.o _ TV e.symm)⟩;refine hK _ _ (.inr kY) ?_;clear hK K;have hs2:w2.heap.size<(w2.alloc (yL #[yA p.1,yA p.2,yA ⟨#[]⟩,yD true,yD false] 109)).heap.size:=by simp
   have jS:=(hgrow.block sb kN.o.lt (fun e=>kN.o.ne e.symm)).trans kN.o.c;have NZ:=ch 3 jS;have TA:=fh 3 jS;have HE:=yN (WI ⟨p.1,p.2,⟨#[]⟩,true,false⟩ cZ.o (aB aV.o cA.o) hown hgrow (fU.imp (fun h=>h) fun h=>h));clear hown hgrow fU iH h1c hZ AE hmx jS iD hrow hs2 HS;have HS:=yN kY;clear kY;refine tM 16 HS ?_;refine tM 17 HS ?_;go_frame;refine oM 18 fun K hK=>?_;go_simp;refine hK _ _ aX ?_;clear hK K;refine cM ?_;generalize w6.setCell _ _=w7 at *;clear NZ TA;have FB:∀ r,DL (look pa) (look pb) r→DL (look la) (look lb) (m ++ [⟨p.1,p.2,⟨#[]⟩,true,false⟩]++r):=fun r hr=>by
    rw [zf];exact HD.o _ (aVW HR.o.1 HR.o.2 oJ.o hr)
   have hrp:=(yz.1 HR.o.1).2;have CU:=HE.o.1;rw [show ∀ c:Cg,L ++ [c]=l++(m ++ [c]) from fun c=>by rw [E3.o,zf]] at CU;have HF:=yN (yd FB (yd hrp CU));clear FB hrp CU;have r1:(1:Int)≤(pa.length:Int)+1:=by omega
   have r2:(1:Int)≤(ca:Int):=by omega
   have r6:(pa.length:Int)+1≤(ca:Int):=by omega
   by_cases hc1:ca=1
   focus
    subst hc1;have HZ:Hid (pa.length=0):=yN (by omega)
   rotate_left;have r4:¬ (ca-1=0):=by omega
   all_goals
    go_wp2_with fail;go_roundg (pa.length+pb.length);case measure=>simp at hm ⊢;omega
    exact⟨_,_,pa,pb,_,m ++ [⟨p.1,p.2,⟨#[]⟩,true,false⟩],rfl,rfl,ye _,yN (by first | exact GW HZ.o | exact CQ.o),HB,yN ⟨HF.o.2.1,HR.o.2⟩,yN HF.o.2.2,yN (HST.o.trans HE.o.2),yN HF.o.1,yN (by have:=HN.o;simp at this ⊢;omega)⟩
  |have _g:=HGT
   clear _g;obtain⟨L,hL⟩:∃ L,L=l++m:=⟨_,rfl⟩;rw [← hL] at cZ;have E3:=yN hL;have CR:=congrArg List.length hL;rw [yy] at CR;have CS:=yN CR;clear hL CR;have iU:=cZ.o;obtain⟨sa,mX,rfl⟩:=bW iU.row;have es:=ch 3 iU.c;clear iU;have aV:=yN (gB wr);refine cP (fun W:World=>W.cell? ⟨sb,3,yO⟩=yP (yC sa L.length mX)∧W.cell? ⟨gb,ob,yO⟩=yP (yA q.1)∧W.cell? ⟨gb,ob+1,yO⟩=yP (yA q.2)) 18 19 ⟨es,f0,f1⟩ fun HS=>?_;clear es;generalize wr.drew=w2 at *;refine tM 0 HS ?_;refine tM 1 HS ?_;refine tM 2 HS ?_;refine tM 3 HS ?_;refine lM 4 HS ?_;refine tM 5 HS ?_;refine tM 6 HS ?_;refine tM 7 HS ?_;refine lM 8 HS ?_;refine tM 9 HS ?_;refine tM 10 HS ?_;refine tM 11 HS ?_;refine lM 12 HS ?_;refine tM 13 HS ?_;go_frame;refine oM 14 fun K hK=>?_;go_simp;have aA:=aZ w2 (yL #[yA q.1,yA ⟨#[]⟩,yA q.2,yD false,yD true] 109);have cA:=yN aA;have aF:=yN (aD (aD bL) aA HS.o);refine hK _ _ (.inr aF.o) ?_;clear hK K HS aA;have HS:=aF;clear aF;have iD:=(cZ.o.kept aV.o).kept cA.o;have kN:=yN iD;have hrow:=iD.row;have iH:=UM w2 (yA q.1) (yA ⟨#[]⟩) (yA q.2) (yD false) (yD true) 109;have h1c:∀ u∈[yA q.1,yA ⟨#[]⟩,yA q.2,Value.bool false,Value.bool true],u.oneCell'=true:=by intro u hu;simp at hu;rcases hu with rfl | rfl | rfl | rfl | rfl <;> rfl
   have hln:=HL.o;have j7:=HN.o;simp at j7;have hmx:L.length+1≤maxLen:=by have:=CS.o;unfold maxLen;omega
   have AE:(L.length+1)*56≤140737488355328:=by have:=CS.o;omega
   have hZ:B≤(w2.alloc (yL #[yA q.1,yA ⟨#[]⟩,yA q.2,yD false,yD true] 109)).heap.size:=by have:=kN.o.lt;have:=kN.o.b;omega
   refine oM 15 fun K hK=>?_;refine (if_pos (show Region.wanted _ _=true from rfl)).mpr ?_;refine A2 _ _ 36 rfl B 109 i0 (yF #[yA yj,yA yj,yA yj,yD false,yD false]) 5 56 underlying36 bS hz0 hzs hzb rfl (by decide) _ _ _ rfl hrow ⟨w2.heap.size,0,yO⟩ 1 1 [yA q.1,yA ⟨#[]⟩,yA q.2,yD false,yD true] rfl rfl iH h1c hmx AE hZ ?_;intro v' w6 hown hgrow fU;obtain⟨va6,vc6,rfl⟩:=bW hown;have kY:(fun W:World=>W.cell? ⟨sb,3,yO⟩=yP (yC sa L.length mX)∧W.cell? ⟨gb,ob,yO⟩=yP (yA q.1)∧W.cell? ⟨gb,ob+1,yO⟩=yP (yA q.2)) w6:=⟨eG hgrow HS.o.1 (fun e=>kN.o.ne e.symm),eG hgrow HS.o.2.1 (fun e=>tE.o _ TU e.symm),eG hgrow HS.o.2.2 (fun e=>tE.o _ TU e.symm)⟩;refine hK _ _ (.inr kY) ?_;clear hK K;have hs2:w2.heap.size<(w2.alloc (yL #[yA q.1,yA ⟨#[]⟩,yA q.2,yD false,yD true] 109)).heap.size:=by simp
   have jS:=(hgrow.block sb kN.o.lt (fun e=>kN.o.ne e.symm)).trans kN.o.c;have NZ:=ch 3 jS;have TA:=fh 3 jS;have HE:=yN (WI ⟨q.1,⟨#[]⟩,q.2,false,true⟩ cZ.o (aB aV.o cA.o) hown hgrow (fU.imp (fun h=>h) fun h=>h));clear hown hgrow fU iH h1c hZ AE hmx jS iD hrow hs2 HS;have HS:=yN kY;clear kY;refine tM 16 HS ?_;refine tM 17 HS ?_;go_frame;refine oM 18 fun K hK=>?_;go_simp;refine hK _ _ aX ?_;clear hK K;refine cM ?_;generalize w6.setCell _ _=w7 at *;clear NZ TA;have FB:∀ r,DL (look pa) (look pb) r→DL (look la) (look lb) (m ++ [⟨q.1,⟨#[]⟩,q.2,false,true⟩]++r):=fun r hr=>by
    rw [zf];exact HD.o _ (aTC HR.o.1 HR.o.2 HGT.o hr)
   have hrp:=(yz.1 HR.o.2).2;have CU:=HE.o.1;rw [show ∀ c:Cg,L ++ [c]=l++(m ++ [c]) from fun c=>by rw [E3.o,zf]] at CU;have HF:=yN (yd FB (yd hrp CU));clear FB hrp CU;have r1:(1:Int)≤(pb.length:Int)+1:=by omega
   have r2:(1:Int)≤(cb:Int):=by omega
   have r6:(pb.length:Int)+1≤(cb:Int):=by omega
   by_cases hc1:cb=1
   focus
    subst hc1;have HZ:Hid (pb.length=0):=yN (by omega)
   rotate_left;have r4:¬ (cb-1=0):=by omega
   all_goals
    go_wp2_with fail;go_roundg (pa.length+pb.length);case measure=>simp at hm ⊢;omega
    exact⟨_,_,pa,pb,_,m ++ [⟨q.1,⟨#[]⟩,q.2,false,true⟩],rfl,rfl,ye _,HA,yN (by first | exact GW HZ.o | exact nY.o),yN ⟨HR.o.1,HF.o.2.1⟩,yN HF.o.2.2,yN (HST.o.trans HE.o.2),yN HF.o.1,yN (by have:=HN.o;simp at this ⊢;omega)⟩
theorem C0 (B:Nat) (W:World) (sb:Nat) (x y z:Int) (sv:Value) (l:List Cg) (va vb:Value) (la lb:List Pr) (Ba Bb:Nat) (hS:jD B W sb x y z sv l) (ha:W.ownsRow Ba 52 2 va la.length (aK la)) (hb:W.ownsRow Bb 52 2 vb lb.length (aK lb))
  (hra:bR la) (aQ:bR lb) (hl:l.length+la.length+lb.length≤1000000):Calls yM 259 #[yB (yP ⟨sb,0,yO⟩),va,vb] W (KZ B W sb x y z sv l (look la) (look lb)):=by
 have key:∀ {C:Nat} {v:Value} {n:Nat} {cs:List Value},W.ownsRow C 52 2 v n cs→∀ i,v.ownBlock=yP i→i<W.heap.size∧i≠sb∧sv.ownBlock≠yP i:=fun ho i hi=>by
  obtain⟨cur,hc⟩:=dX ho hi;refine⟨(ho.lt i hi).2,fun e=>?_,fR hS.row hc (by decide)⟩;subst e;rw [hS.c] at hc;exact absurd hc (by intro e;cases e)
 refine aY7 B (fun i=>decide (va.ownBlock=yP i) || decide (vb.ownBlock=yP i)) W sb x y z sv l va vb la lb hS (fun i hi=>?_) (RN ha fun i hi=>by simp [hi]) (RN hb fun i hi=>by simp [hi]) hra aQ hl;simp at hi;rcases hi with hi | hi
 ·exact key ha i hi
 exact key hb i hi
end
section
open Go.RowKit
attribute [local irreducible] look
def RX (l:List Pr) (w:World) (e:Ending) (w':World):Prop:=∃ v,e = .returned v∧w'.ownsRow w.heap.size 52 2 v l.length (aK l)∧Kept w w'
theorem aZA (ahead:Key) (w:World):Calls yM 260 #[yB yO,yA ahead] w (RX [] w):=by
 go_enter func260,ntmps260;go_wp2_with fail;go_ret;exact⟨_,rfl,World.ownsRow_nil _ _ _ _,yk _ _⟩
theorem a4I {w:World} {B:Nat} {e:TypeId} {v:Value} {n:Nat} {cs:List Value} (h:w.ownsRow B e 1 v n cs) {i:Nat} {u:Value} (hu:cs[i]?=yP u):∃ g cap,v=yC (yP ⟨g,0,yO⟩) n cap∧i<n∧n≤cap∧cap≤maxLen∧w.cell? ⟨g,i,yO⟩=yP u:=by
 have hi:i<n:=by
  have:=(List.getElem?_eq_some_iff.1 hu).1;rw [h.1,Nat.mul_one] at this;exact this
 rcases h.2 with ⟨rfl,rfl⟩ | ⟨g,cap,cur,rfl,_,_,h1,h2,_⟩
 ·omega
 have:=h.cells (g:=g) rfl i u hu;rw [Addr.add_lit,Nat.zero_add] at this;exact⟨g,cap,rfl,hi,h1,h2,this⟩
def YI (d:Nat):Prop:=∀ (n b:Nat) (lab ahead key:Key) (l:List Pr) (w:World),Hid (RL w d n b lab key l)→Hid (key=ahead++lab)→Hid (l.length≤100000)→Calls yM 260 #[yB (yP ⟨b,0,yO⟩),yA ahead] w (RX l w)
theorem aR3 {α:Type} (f:α→List Pr) (l:List α) (i:Nat):((l.take i).flatMap f).length≤(l.flatMap f).length:=by
 conv=>rhs;rw [← List.take_append_drop i l,List.flatMap_append,yy]
 omega
theorem aWE (d:Nat) (ih:∀ j,j<d→YI j):YI d:=by
 intro n b lab ahead key l w HR HK HL
 obtain⟨has,val,kv,kz,h0,h1,h2,hk,hd,AD,h5,he⟩:∃ (has:Bool) (val:Key) (kv:Value) (kz:List Kz),NR w b lab has val kv∧Rd w kv kz.length (kz.map fun q=>ptr q.b)∧(has=false→val=yj)∧key.size+d≤1000∧(∀ q∈kz,0<q.lab.size∧q.lab.size≤d)∧kz.length≤256∧
   (∀ q∈kz,RL w (d-q.lab.size) q.n q.b q.lab (key++q.lab) q.l)∧l=tW key (if has then yP val else yO)++kz.flatMap fun q=>q.l:=by
  cases HR.o with
  | mk _ _ _ _ _ has val kv kz _ h0 h1 h2 hk hd AD h5 h7 he=>exact⟨has,val,kv,kz,h0,h1,h2,hk,hd,AD,h5,he⟩
 obtain⟨own,hown⟩:∃ own,own=tW key (if has then yP val else yO):=⟨_,rfl⟩;have HE:=yN he;have CK:=yN h0;have HKV:=yN h1;have H5:=yN h5;have HD:=yN hd;have HO:=yN hown;have hsz:¬ 9223372036854775807<(ahead.size:Int)+(lab.size:Int):=by
  rw [HK.o,eP] at hk;omega
 have hsz':¬ 9223372036854775807<ahead.size+lab.size:=by
  rw [HK.o,eP] at hk;omega
 clear he h0 h1 h5 hd hown h2;go_enter func260,ntmps260;go_wp2_with fail;refine (wX b lab val has kv w CK.o).mono ?_;rintro e w' ⟨rfl,rfl⟩;go_wp2_with fail;refine (QF b lab val has kv w CK.o).mono ?_;rintro e w1 ⟨rfl,q1,rfl⟩;have aJ:=yN (lF w q1);generalize w.drewN q1=w1 at *;have hb:has=true∨has=false:=by cases has <;> simp
 have hs1:w.heap.size≤w1.heap.size:=aJ.o.size;rcases hb with rfl | rfl
 rotate_left
 focus
  have ho:own=[]:=HO.o;have eE:Hid (w1.ownsRow w.heap.size 52 2 (yC yO 0 0) own.length (aK own)):=yN (by rw [ho];exact World.ownsRow_nil _ _ _ _);clear ho hs1;go_wp2_with fail
 rotate_left
 focus
  have ho:own=[(key,val)]:=HO.o;rw [HK.o] at ho;go_wp2_with (at_builtin;refine CC eiP rfl _ _ rfl w.heap.size 0 [yA (ahead++lab),yA val] (xs:=[]) rfl (World.ownsRow_nil _ _ _ _) hs1 rfl rfl (by intro u hu;simp at hu;rcases hu with rfl | rfl <;> rfl) (by omega) ?_);intro v0 w5 hown gV hgrow fU;have nI:Hid (w5.ownsRow w.heap.size 52 2 v0 own.length (aK own)):=yN (by rw [ho];exact hown);have bI:=yN (yn aJ.o gV);clear ho hs1 hown gV hgrow fU aJ;generalize hww:w5=w1 at *;have eE:=nI;have aJ:=bI;clear hww nI bI;go_wp2_with fail
 all_goals
  refine (Q0 b kz.length lab val _ kv _ _ (CK.o.kept aJ.o) (HKV.o.kept aJ.o) (by simp) (by omega) (fun u hu=>by obtain⟨x,_,rfl⟩:=zj.1 hu;rfl)).mono ?_;rintro e w3 ⟨vk,rfl,YJ,hk3⟩;have fX:=yN (bT eE.o hk3);have aL:=yN (aB aJ.o hk3);have HV:=yN YJ;have sJ:=yN (show ∀ v0,w1.ownsRow w.heap.size 52 2 v0 own.length (aK own)→∀ g,v0.ownBlock=yP g→vk.ownBlock≠yP g from fun v0 h g hg e=>by have:=(h.lt g hg).2;have:=(YJ.lt g e).1;omega);obtain⟨ak,ck,rfl⟩:∃ a c,vk=yC a kz.length c:=(dH YJ).shape;clear hk3 YJ;go_wp2_with fail
  go_loopg [6,32] kz.length (fun kx s6 TJ wr=>∃ (j:Nat) (v6:Value),v6=s6∧TJ=yE yH j∧j≤kz.length∧kz.length-j≤kx∧Hid (wr.ownsRow w.heap.size 52 2 v6 (own++(kz.take j).flatMap fun q=>q.l).length (aK (own++(kz.take j).flatMap fun q=>q.l)))∧Hid (Kept w wr)∧Hid (wr.ownsRow w1.heap.size 177 1 (yC ak kz.length ck) kz.length (kz.map fun q=>ptr q.b))∧Hid (∀ g,v6.ownBlock=yP g→(yC ak kz.length ck).ownBlock≠yP g))
  case atStart=>exact⟨0,_,rfl,rfl,yg _,ye _,yN (by simpa using fX.o),aL,HV,yN (sJ.o _ eE.o)⟩
  obtain⟨j,v6,rfl,rfl,hj,hm,HOr,aV,AQ,HNr⟩:=hrel;by_cases hlt:j<kz.length
  ·have cD:(j:Int)<(kz.length:Int):=by omega
   obtain⟨q,hq⟩:∃ q,kz[j]?=yP q:=⟨kz[j],List.getElem?_eq_getElem hlt⟩;obtain⟨g,cap,he,dI,hc1,hc2,hcell⟩:=a4I AQ.o (show (kz.map fun q=>ptr q.b)[j]?=yP (ptr q.b) by rw [List.getElem?_map,hq];rfl);obtain⟨rfl,rfl⟩:ak=yP ⟨g,0,yO⟩∧cap=ck:=by cases he;exact⟨rfl,rfl⟩
   clear he;have FE:=List.mem_of_getElem? hq;have HQ:=yN hq;have uJ:=HL.o;have wA:(kz.take (j+1)).flatMap (fun q=>q.l)=(kz.take j).flatMap (fun q=>q.l)++q.l:=by rw [List.take_add_one,hq];simp
   have htl:=aR3 (fun q:Kz=>q.l) kz (j+1);rw [HE.o,yy,← HO.o] at uJ;rw [wA,yy] at htl;unfold ptr at hcell;have HT:=yN wA;clear wA hq;go_wp2_with fail;refine (ih (d-q.lab.size) (by have:=HD.o q FE;omega) q.n q.b q.lab (ahead++lab) (key++q.lab) q.l wr (yN ((H5.o q FE).kept aV.o)) (yN (by rw [HK.o])) (yN (by omega))).mono ?_;rintro e w4 ⟨v4,rfl,xX,hk4⟩;have lY:=yN xX;have a83:=yN (bT HOr.o hk4);have Z6:=yN (bT AQ.o hk4);have aR:=yN (aB aV.o hk4);have hs4:=aR.o.size;clear xX hk4;go_wp2_with (at_builtin;refine aJR eiP rfl _ _ rfl w.heap.size wr.heap.size _ q.l.length rfl a83.o hs4 rfl lY.o (nQ _) (by rw [yy];omega) ?_);intro v5 w5 hown gV hgrow fU
   have nI:Hid (w5.ownsRow w.heap.size 52 2 v5 (own++(kz.take (j+1)).flatMap fun q=>q.l).length (aK (own++(kz.take (j+1)).flatMap fun q=>q.l))):=yN (by
    rw [HT.o,← zf,lH,yy,show (own++(kz.take j).flatMap fun q=>q.l).length=own.length+(List.take j (List.map (fun a=>a.l.length) kz)).sum by simp];exact hown)
   have bI:=yN (yn aR.o gV);have O0:=yN (cF Z6.o fun g' cS=>hgrow.block g' (Z6.o.lt g' cS).2 (fun e=>HNr.o g' e.symm cS))
   have OL:Hid (∀ g',v5.ownBlock=yP g'→(yC (yP ⟨g,0,yO⟩) kz.length cap).ownBlock≠yP g'):=yN (fun g' cS e=>by
    rcases fU with h | h
    ·exact HNr.o g' (h ▸ cS) e
    have h1:=(Z6.o.lt g' e).2;rw [cS] at h;have:=Option.some.inj h;omega)
   clear hown gV hgrow fU;go_wp2_with fail;go_roundg (kz.length-(j+1));case measure=>omega
   exact⟨j+1,_,rfl,by congr 1,by omega,ye _,nI,bI,O0,OL⟩
  have cD:¬ (j:Int)<(kz.length:Int):=by omega
  have hje:j=kz.length:=by omega
  subst hje;go_wp2_with fail;go_ret;refine⟨_,rfl,?_,aV.o⟩;have:=HOr.o;rw [List.take_length,HO.o,← HE.o] at this;exact this
theorem a1T (d:Nat):YI d:=Nat.strongRecOn d fun d ih=>aWE d ih
inductive Sd (V:World) (ahead:Key) (d:Nat):Option Nat→Mp→Prop
 | nil:Sd V ahead d yO none_
 | node (b:Nat) (lab:Key) (f:Mp) (h:RR V d b lab f) (hs:(ahead++lab).size+d≤1000):Sd V ahead d (yP b) (behind (ahead++lab) f)
theorem Sd.kept {V V':World} {ahead:Key} {d:Nat} {o:Option Nat} {f:Mp} (h:Sd V ahead d o f) (hk:Kept V V'):Sd V' ahead d o f:=by
 cases h with
 | nil=>exact .nil
 | node b lab f h hs=>exact .node b lab f (h.kept hk) hs
def op (o:Option Nat):Value:=yB (o.map fun b=>⟨b,0,yO⟩)
theorem QN (ahead:Key) (d:Nat) (o:Option Nat) (f:Mp) (w:World) (h:Sd w ahead d o f) (hf:aM f 1000):Calls yM 260 #[op o,yA ahead] w fun e w'=>∃ s,eK s f∧RX s w e w':=by
 cases h with
 | nil=>exact (aZA ahead w).mono fun e w' h=>⟨[],P5,h⟩
 | node b lab f h hs=>
  obtain⟨n,l,hl,uJ⟩:=RR.rl h (ahead++lab) hs;have hlen:l.length≤1000:=Has.few uJ.has hf;exact (a1T d n b lab ahead _ l w (yN hl) (yN rfl) (yN (by omega))).mono fun e w' h=>⟨l,uJ,h⟩
theorem aIS (b:Nat) (lab key val:Key) (has:Bool) (kv:Value) (w:World) (h:NR w b lab has val kv):Calls yM 261 #[yB (yP ⟨b,0,yO⟩),yA key] w (RX (tW key (if has then yP val else yO)) w):=by
 have CK:=yN h;obtain⟨ow,how⟩:∃ ow,ow=tW key (if has then yP val else yO):=⟨_,rfl⟩;rw [← how];have HW:=yN how;clear h how;go_enter func261,ntmps261;go_wp2_with fail;refine (QF b lab val has kv w CK.o).mono ?_;rintro e w1 ⟨rfl,q1,rfl⟩;have aJ:=yN (lF w q1);generalize w.drewN q1=w1 at *;cases has with
 | false=>
  go_wp2_with fail;go_ret;obtain rfl:ow=[]:=HW.o;exact⟨_,rfl,World.ownsRow_nil _ _ _ _,aJ.o⟩
 | true=>
  obtain⟨aA,hb⟩:=aW w1 (yL #[yA key,yA val] 52);have HA:=yN (yd aA hb);clear aA hb;go_wp2_with fail;go_ret;obtain rfl:ow=[(key,val)]:=HW.o;exact⟨_,rfl,⟨rfl,.inr ⟨w1.heap.size,1,_,rfl,aJ.o.size,HA.o.2,ye _,by unfold maxLen;omega,rfl,rfl⟩⟩,aB aJ.o HA.o.1⟩
end
section
open Go.RowKit
variable {F:Nat→Option Value} {par:Nat→List Nat} {gb pb n:Nat} {w w':World} {S:Nat→Prop}
def cW (l:List Nat):List Value:=l.map fun p=>yE yI (p:Nat)
theorem aHE (l:List Nat):∀ u∈cW l,u.oneCell'=true:=by
 intro u hu;obtain⟨x,_,rfl⟩:=zj.1 hu;rfl
theorem aYB (l:List Nat):(cW l).length=l.length*1:=by simp [cW]
structure GR (w:World) (gb pb n:Nat) (par:Nat→List Nat) (F:Nat→Option Value):Prop where
 c:w.heap[gb]?=yP (yL #[.map (yP pb),yE yI ((n:Int)+1)] 250)
 m:MF 35 gu w pb n F
 f:∀ i,1≤i→i≤n→∃ v,F i=yP v∧w.ownsRow 0 35 1 v (par i).length (cW (par i))∧(par i).length≤2∧∀ p∈par i,1≤p∧p<i
 o:∀ i,¬ (1≤i∧i≤n)→F i=yO
 s:n≤100
theorem GR.lt (h:GR w gb pb n par F):gb<w.heap.size:=(yo.1 h.c).1
theorem GR.ne (h:GR w gb pb n par F):gb≠pb:=fun e=>by
 obtain⟨es,clock,hb⟩:=h.m.heap;have:=h.c;rw [e,hb] at this;cases this
structure Off (w w':World) (S:Nat→Prop):Prop where
 size:w.heap.size≤w'.heap.size
 same:∀ i,i<w.heap.size→¬ S i→w'.heap[i]?=w.heap[i]?
 row:∀ i cur,S i→w.heap[i]?≠yP (yL cur 35)
theorem a0S {B:Nat} {v:Value} {cs:List Value} (h:w.ownsRow B 35 1 v n cs) (ho:Off w w' S):w'.ownsRow B 35 1 v n cs:=cF h fun g hg=>by
 obtain⟨cur,hc⟩:=dX h hg;exact ho.same g (h.lt g hg).2 fun hs=>ho.row g cur hs hc
theorem GR.off (h:GR w gb pb n par F) (ho:Off w w' S) (h1:¬ S gb) (h2:¬ S pb):GR w' gb pb n par F:=
 ⟨(ho.same gb h.lt h1).trans h.c,h.m.stay (ho.same pb h.m.lt h2),fun i a b=>let ⟨v,e1,e2,e3⟩:=h.f i a b;⟨v,e1,a0S e2 ho,e3⟩,h.o,h.s⟩
theorem GR.kept (h:GR w gb pb n par F) (hk:Kept w w'):GR w' gb pb n par F:=
 h.off (S:=fun _=>False) ⟨hk.size,fun i hi _=>hk.block i hi,fun _ _ h=>h.elim⟩ id id
theorem aSL (w:World):(zeroValue 38).run yM w = .ok (yC yO 0 0) w:=by first | exact Tryz.zeroValue38 w | (simp [zeroValue];kernel_rfl)
theorem GR.look {w:World} {gb pb n:Nat} {par:Nat→List Nat} {F:Nat→Option Value} (h:GR w gb pb n par F) {i:Nat} (hi:i<4294967296) :
  (Instr.lookup 248 (.map (yP pb)) (yE yI i) true).run yM w = .ok (.tuple #[(F i).getD (yC yO 0 0),yD (F i).isSome]) w∧(Instr.lookup 248 (.map (yP pb)) (yE yI i) false).run yM w = .ok ((F i).getD (yC yO 0 0)) w:=
 h.m.look oP underlying248 aSL (u7 hi)
theorem GR.has (h:GR w gb pb n par F) (i:Nat):(F i).isSome=decide (1≤i∧i≤n):=by
 by_cases hi:1≤i∧i≤n
 ·obtain⟨v,e,_⟩:=h.f i hi.1 hi.2;rw [e,decide_eq_true hi];rfl
 rw [h.o i hi,decide_eq_false hi];rfl
theorem aYC (w:World):Calls yM 96 #[] w fun e w'=>∃ gb pb,e = .returned (yB (yP ⟨gb,0,yO⟩))∧w.heap.size≤gb∧w.heap.size≤pb∧GR w' gb pb 0 (fun _=>[]) (fun _=>yO)∧Kept w w':=by
 have aA:=aZ w (.map #[] 0);have hm:=MF.made 35 gu w;have HA:=yN (yd aA hm);have qV:=@run_makeMap yM;go_enter func96,ntmps96;go_wp2_with fail;go_ret;have BQ:Kept (w.alloc (.map #[] 0)) ((w.alloc (.map #[] 0)).alloc (yL #[.map (yP w.heap.size),yE yI 1] 250)):=(yk _ _).alloc (ye _) _;refine⟨_,w.heap.size,rfl,by simp,ye _,⟨?_,HA.o.2.kept BQ,fun i a b=>by omega,fun i _=>rfl,by omega⟩,aB HA.o.1 BQ⟩;have h:=bM (w.alloc (.map #[] 0)) (yL #[.map (yP w.heap.size),yE yI 1] 250);rw [World.size_alloc] at h;exact h
theorem KU (gb pb n i:Nat) (par:Nat→List Nat) (F:Nat→Option Value) (w:World) (h:GR w gb pb n par F) (hi:i<4294967296):Calls yM 235 #[yB (yP ⟨gb,0,yO⟩),yE yI i] w fun e w'=>e = .returned (yD (decide (1≤i∧i≤n)))∧w=w':=by
 have c0:=ch 0 h.c;have hl:=(h.look hi).1;rw [h.has] at hl;generalize decide (1≤i∧i≤n)=r at hl ⊢;go_enter func235,ntmps235;go_wp2_with fail;go_ret;exact⟨rfl,rfl⟩
end
section
open Go.RowKit
def aJS (g:Nat) (cb:Array Value) (es:List Value) (w:World):Prop:=∀ u∈es,∀ wr,Kept w wr→Calls yM g (#[u]++cb) wr fun e w'=>e = .returned (yD false)∧Kept wr w'
theorem aF4 (g:Nat) (cb:Array Value) (v:Value) (es:List Value) (w:World) (eg:∀ args w,(callFunc g args).run yM w = .ok (.enter g args) w) (h:Rd w v es.length es) (hn:es.length≤1000000) (hp:aJS g cb es w) :
  Calls yM 375 #[v,yG (.func g) #[] cb] w fun e w'=>e = .returned (yE yH (-1))∧Kept w w':=by
 obtain⟨a,cap,rfl⟩:=h.shape;have HR:=yN h;have HP:=yN hp;go_enter func375,ntmps375;go_wp2_with fail
 go_loopg [8] es.length (fun kx s8 wr=>∃ i:Nat,s8=yE yH i∧i≤es.length∧es.length-i≤kx∧Hid (Kept w wr))
 case atStart=>exact⟨0,rfl,yg _,by omega,yN (yk _ _)⟩
 obtain⟨i,rfl,dI,hm,HK⟩:=hrel;by_cases hlt:i<es.length
 ·have cD:(i:Int)<(es.length:Int):=by omega
  obtain⟨u,hu⟩:∃ u,es[i]?=yP u:=⟨es[i],List.getElem?_eq_getElem hlt⟩;obtain⟨gb,off,rfl,e0⟩:∃ gb off,a=yP ⟨gb,off,yO⟩∧wr.cell? ⟨gb,off+i,yO⟩=yP u:=by
   rcases HR.o with ⟨_,_,_,_,h0,_⟩ | ⟨gb,off,cap',he,_,_,_,hc⟩
   ·omega
   cases he;exact⟨gb,off,rfl,HK.o.cell (hc i u hu)⟩
  have HM:=yN (List.mem_of_getElem? hu);go_wp2_with fail;refine (HP.o u HM.o _ HK.o).mono ?_;rintro e w' ⟨rfl,hk⟩;have aH:=yN (HK.o.trans hk);go_wp2_with fail;go_roundg (es.length-(i+1));case measure=>omega
  exact⟨i+1,by go_num,by omega,ye _,aH⟩
 have cD:¬ (i:Int)<(es.length:Int):=by omega
 go_wp2_with fail;go_ret;exact⟨rfl,HK.o⟩
theorem aQM (g:Nat) (cb:Array Value) (v:Value) (es:List Value) (w:World) (eg:∀ args w,(callFunc g args).run yM w = .ok (.enter g args) w) (h:Rd w v es.length es) (hn:es.length≤1000000) (hp:aJS g cb es w) :
  Calls yM 373 #[v,yG (.func g) #[] cb] w fun e w'=>e = .returned (yD false)∧Kept w w':=by
 have HI:=yN (aF4 g cb v es w eg h hn hp);go_enter func373,ntmps373;go_wp2_with fail;refine HI.o.mono ?_;rintro e w' ⟨rfl,hk⟩;go_wp2_with fail;go_ret;exact⟨rfl,hk⟩
end
section
open Go.RowKit
inductive Two:List Nat→Prop
 | none:Two []
 | one (p:Nat):Two [p]
 | two (p q:Nat) (h:p≠q):Two [p,q]
theorem a0T (gb:Nat) (v:Value) (l:List Nat) (w:World) (h:Rd w v l.length (cW l)) (h2:Two l):Calls yM 306 #[yB (yP ⟨gb,0,yO⟩),v] w fun e w'=>e = .returned (yE yH 0)∧∃ q,w'=w.drewN q:=by
 obtain⟨a,cap,rfl⟩:=h.shape;cases h2 with
 | none=>
  go_enter func306,ntmps306;go_wp2_with fail;go_quiet (fail);go_wp2_with fail;go_ret;exact⟨rfl,_,rfl⟩
 | one p=>
  go_enter func306,ntmps306;go_wp2_with fail;go_quiet (fail);go_wp2_with fail;go_ret;exact⟨rfl,_,rfl⟩
 | two p q hne=>
  obtain⟨g,off,cap,he,e0,e1,hc⟩:∃ g off cap',yC a 2 cap=yC (yP ⟨g,off,yO⟩) 2 cap'∧w.cell? ⟨g,off,yO⟩=yP (yE yI p)∧w.cell? ⟨g,off+1,yO⟩=yP (yE yI q)∧2≤cap':=by
   rcases h with ⟨_,_,_,_,h0,_⟩ | ⟨g,off,cap',he,h1,_,_,hc⟩
   ·cases h0
   exact⟨g,off,cap',he,hc 0 _ rfl,hc 1 _ rfl,h1⟩
  cases he;have hb:((p:Int) == (q:Int))=false:=by simpa using fun e:(p:Int)=q=>hne (by omega)
  have hd:decide ((p:Int)=(q:Int))=false:=by simpa using fun e:(p:Int)=q=>hne (by omega)
  go_enter func306,ntmps306;go_wp2_with fail;go_quiet (fail);go_wp2_with fail;go_ret;exact⟨rfl,_,rfl⟩
theorem aUW (gb pb n i bx:Nat) (par:Nat→List Nat) (F:Nat→Option Value) (w:World) (h:GR w gb pb n par F) (hi:1≤i∧i≤n) (c0:w.cell? ⟨bx,0,yO⟩=yP (yB (yP ⟨gb,0,yO⟩))):Calls yM 374 #[yE yI i,yB (yP ⟨bx,0,yO⟩)] w fun e w'=>e = .returned (yD false)∧Kept w w':=by
 have H:=yN h;have hs:=h.s;go_enter func374,ntmps374;go_wp2_with fail;refine (KU gb pb n i par F w H.o (by omega)).mono ?_;rintro e w' ⟨rfl,rfl⟩;rw [decide_eq_true hi];go_wp2_with fail;go_ret;exact⟨rfl,yk _ _⟩
theorem aYD (gb pb n:Nat) (par:Nat→List Nat) (F:Nat→Option Value) (v:Value) (l:List Nat) (w:World) (h:GR w gb pb n par F) (hv:Rd w v l.length (cW l)) (hl:∀ p∈l,1≤p∧p≤n) (h2:Two l):Calls yM 307 #[yB (yP ⟨gb,0,yO⟩),v] w fun e w'=>e = .returned (yE yH 0)∧Kept w w':=by
 obtain⟨aA,hb⟩:=aW w (yL #[yB (yP ⟨gb,0,yO⟩)] 182);have HA:=yN (yd aA hb);have H:=yN h;have HV:=yN (hv.kept aA);have hs:=h.s;have hlen:l.length≤2:=by cases h2 <;> simp
 clear h hv aA hb;go_enter func307,ntmps307;go_wp2_with fail;generalize w.alloc _=w1 at *;obtain⟨bx,j9⟩:∃ bx,bx=w.heap.size:=⟨_,rfl⟩;rw [← j9] at HA ⊢;have hul:(cW l).length=l.length:=by simp [cW]
 rw [← hul] at HV;refine (aQM 374 #[yB (yP ⟨bx,0,yO⟩)] v (cW l) w1 (enters_of func374 (by kernel_rfl) rfl) HV.o (by omega) (fun u hu wr hk=>?_)).mono ?_
 ·obtain⟨p,hp,rfl⟩:=zj.1 hu;exact aUW gb pb n p bx par F wr ((H.o.kept HA.o.1).kept hk) (hl p hp) (hk.cell (aG HA.o.2 rfl))
 rintro e w2 ⟨rfl,hk2⟩;have hG:=(H.o.kept HA.o.1).kept hk2;have c0:=ch 0 hG.c;have b0:=hk2.cell (ch 0 HA.o.2);have hlen:=fun ty=>hG.m.len underlying248 ty;have HK:=yN (aB HA.o.1 hk2);have hn:(n:Int)<1024:=by omega
 clear hG hk2 j9;go_wp2_with fail;go_ret;exact⟨rfl,HK.o⟩
end
section
open Go.RowKit
def GB (gb pb:Nat) (i:Nat):Prop:=i=gb∨i=pb
def a7T (gb pb n:Nat) (par:Nat→List Nat) (l:List Nat) (w:World) (e:Ending) (w':World):Prop:=
 ∃ F',e = .returned (.tuple #[yE yI ((n:Int)+1),yE yH 0])∧GR w' gb pb (n+1) (fun i=>if i=n+1 then l else par i) F'∧Sm (GB gb pb) w w'
theorem a3G (gb pb n:Nat) (par:Nat→List Nat) (F:Nat→Option Value) (l:List Nat) (v:Value) (w:World) (h:GR w gb pb n par F) (hv:Rd w v l.length (cW l)) (hl:∀ p∈l,1≤p∧p≤n) (h2:Two l) (hn:n<100) :
  Calls yM 243 #[yB (yP ⟨gb,0,yO⟩),v] w (a7T gb pb n par l w):=by
 have HH:=yN h;have HV:=yN hv;have HL:=yN hl;have hlen:l.length≤2:=by cases h2 <;> simp
 go_enter func243,ntmps243;go_wp2_with fail;refine (a0T gb v l w HV.o h2).mono ?_;rintro e w1 ⟨rfl,q,rfl⟩;have aJ:Hid (Kept w (w.drewN q)):=yN ⟨rfl,rfl,rfl,ye _,fun _ _=>rfl⟩;generalize w.drewN q=w1 at *;go_wp2_with fail;refine (aYD gb pb n par F v l w1 (HH.o.kept aJ.o) (HV.o.kept aJ.o) HL.o h2).mono ?_;rintro e w2 ⟨rfl,hk2⟩;have aH:=yN (aB aJ.o hk2);have mO:=yN ((HH.o.kept aJ.o).kept hk2);have c0:=ch 0 mO.o.c;have c1:=ch 1 mO.o.c;have hlt:decide ((2147483648:Int)≤(n:Int)+1)=false:=decide_eq_false (by omega);go_wp2_with fail;have aP:=yN (dY aH.o);have HGd:Hid (GR w2.drew gb pb n par F):=yN (mO.o.kept (ym (yk _ _)));refine jE (fun W:World=>W.cell? ⟨gb,0,yO⟩=yP (.map (yP pb))) 8 c0 fun HS=>?_;generalize w2.drew=w3 at *;refine tH 0 HS ?_;refine tH 1 HS ?_;refine tH 2 HS ?_;refine tH 3 HS ?_;refine tH 4 HS ?_;refine tH 5 HS ?_;go_frame;refine oH 6 fun K hK=>?_;go_simp;refine (a0E v l.length (cW l) w3 (HV.o.kept aP.o) (aYB l) (by omega) (aHE l)).mono ?_;rintro e w4 ⟨v',rfl,hown,hk⟩;have aF:=yN (hk.cell HS.o);have aR:=yN (aB aP.o hk);have nG:=yN (HGd.o.kept hk);have lY:=yN hown;refine hK _ _ aF.o ?_;have HS:=aF;have hput:=nG.o.m.put KO oP underlying248 (by unfold maxLen;omega) (key:=yE yI ((n:Int)+1)) (i:=n+1) (by have h:=u7 (i:=n+1) (by omega);rwa [Int.natCast_add] at h) v';rw [nG.o.o (n+1) (by omega)] at hput;obtain⟨w5,hrun,hmf,kZ⟩:=hput;have uL:=yN (yd hmf kZ);refine oH 7 fun K hK=>?_;go_simp;refine hK _ _ (uL.o.2.cell _ _ HS.o) ?_;refine dA ?_;have SX:=(uL.o.2.same gb nG.o.ne).trans nG.o.c;have d0:=ch 0 SX;have d1:=ch 1 SX;have d1f:=fh 1 SX;have hw:yI.wrap ((n:Int)+1+1)=(n:Int)+1+1:=by unfold IntKind.wrap;simp [IntKind.bits,IntKind.signed];omega
 have sL:=yN SX;go_wp2_with fail;go_ret2;have h6:=heap_setCell (o:=1) (v:=yE yI ((n:Int)+1+1)) sL.o;have zU:∀ i,i≠gb→(w5.setCell ⟨gb,1,yO⟩ (yE yI ((n:Int)+1+1))).heap[i]?=w5.heap[i]?:=fun i hi=>yl _ _ _ _ (by simpa using hi);have hz6:(w5.setCell ⟨gb,1,yO⟩ (yE yI ((n:Int)+1+1))).heap.size=w5.heap.size:=by simp only [World.setCell,Array.size_modify]
 have bQ:Sm (GB gb pb) w4 w5:=(Sm.LG uL.o.2).more fun i hi=>.inr hi;have kA:Sm (GB gb pb) w5 (w5.setCell ⟨gb,1,yO⟩ (yE yI ((n:Int)+1+1))):=⟨rfl,rfl,rfl,yh hz6.symm,fun i _ hi=>zU i fun e=>hi (.inl e)⟩;have cH:=bQ.trans kA;have hrow:∀ {u:Value} {m:Nat} {cs:List Value},w4.ownsRow 0 35 1 u m cs→(w5.setCell ⟨gb,1,yO⟩ (yE yI ((n:Int)+1+1))).ownsRow 0 35 1 u m cs:=fun hu=>by
  refine cF hu fun g hg=>cH.same g (hu.lt g hg).2 fun hs=>?_;obtain⟨cur,hc⟩:=dX hu hg;rcases hs with rfl | rfl
  ·rw [nG.o.c] at hc;cases hc
  obtain⟨es,ck,hb⟩:=nG.o.m.heap;rw [hb] at hc;cases hc
 refine⟨_,rfl,⟨?_,(uL.o.1.stay (zU pb nG.o.ne.symm)),fun i gR oA=>?_,fun i hi=>?_,by omega⟩,(Sm.kept aR.o).trans cH⟩;·rw [h6];simp
 ·by_cases e:i=n+1
  ·subst e;exact⟨v',by rw [if_pos rfl],by rw [if_pos rfl];exact hrow (dG lY.o (yg _)),by rw [if_pos rfl];exact hlen,by rw [if_pos rfl];exact fun p hp=>by have:=HL.o p hp;omega⟩
  obtain⟨u,e1,e2,e3,e4⟩:=nG.o.f i gR (by omega);exact⟨u,by rw [if_neg e];exact e1,by rw [if_neg e];exact hrow e2,by rw [if_neg e];exact e3,by rw [if_neg e];exact e4⟩
 by_cases e:i=n+1;·exact absurd (by omega) hi
 show (if i=n+1 then yP v' else F i)=yO;rw [if_neg e];exact nG.o.o i (by omega)
end
section
open Go.RowKit
variable {n x y:Nat} {par:Nat→List Nat} {ids sl M:List Nat}
inductive bV (par:Nat→List Nat) (n:Nat):Nat→Nat→Prop
 | refl (x:Nat) (h:1≤x∧x≤n):bV par n x x
 | step (x p y:Nat) (h:1≤x∧x≤n) (hp:p∈par x) (hu:bV par n p y):bV par n x y
theorem bV.left (h:bV par n x y):1≤x∧x≤n:=by cases h <;> assumption
theorem bV.right (h:bV par n x y):1≤y∧y≤n:=by
 induction h with
 | refl x h=>exact h
 | step x p y h hp hu ih=>exact ih
theorem bV.snoc {p:Nat} (h:bV par n x y) (hp:p∈par y) (hr:1≤p∧p≤n):bV par n x p:=by
 induction h with
 | refl x h=>exact .step x p p h hp (.refl p hr)
 | step x q y h hq hu ih=>exact .step x q p h hq (ih hp)
def iQ (sl:List Nat) (i:Nat):Option Value:=if i∈sl then yP (yE yH 1) else yO
theorem QI:∀ (n:Nat) (l:List Nat),l.Nodup→(∀ x∈l,1≤x∧x≤n)→l.length≤n:=by
 intro n;induction n with
 | zero=>
  intro l _ h;cases l with
  | nil=>simp
  | cons x l=>have:=h x (by simp);omega
 | succ n ih=>
  intro l hd h;by_cases hm:n+1∈l
  ·have h1:=ih (l.erase (n+1)) (hd.erase _) (fun x hx=>by
    have h2:=(hd.mem_erase_iff).1 hx;have h3:=h x h2.2;have h4:=h2.1;omega)
   rw [List.length_erase_of_mem hm] at h1;omega
  have:=ih l hd (fun x hx=>by
   have h3:=h x hx;have h4:x≠n+1:=fun e=>hm (e ▸ hx);omega)
  omega
structure qW (par:Nat→List Nat) (n:Nat) (ids sl L:List Nat):Prop where
 nd:sl.Nodup
 rg:∀ x∈sl,1≤x∧x≤n
 a:∀ x∈sl,∃ y∈ids,bV par n y x
 b:∀ x∈L,1≤x∧x≤n→∃ y∈ids,bV par n y x
 c:∀ y∈ids,1≤y∧y≤n→y∈sl∨y∈L
 d:∀ x∈sl,∀ p∈par x,1≤p∧p≤n→p∈sl∨p∈L
theorem qW.start (par:Nat→List Nat) (n:Nat) (ids:List Nat):qW par n ids [] ids:=
 ⟨List.nodup_nil,fun x h=>by simp at h,fun x h=>by simp at h,fun x h hr=>⟨x,h,.refl x hr⟩,fun y h _=>.inr h,fun x h=>by simp at h⟩
theorem qW.skip (h:qW par n ids sl (M ++ [x])) (hx:¬ (1≤x∧x≤n)∨x∈sl):qW par n ids sl M:=by
 have go:∀ y,1≤y∧y≤n→y∈sl∨y∈M ++ [x]→y∈sl∨y∈M:=by
  intro y hr hy;rcases hy with hy | hy
  ·exact .inl hy
  rcases za.1 hy with hy | hy
  ·exact .inr hy
  have e:y=x:=by simpa using hy
  subst e;rcases hx with hx | hx
  ·exact absurd hr hx
  exact .inl hx
 exact⟨h.nd,h.rg,h.a,fun y hy hr=>h.b y (List.mem_append_left _ hy) hr,fun y hy hr=>go y hr (h.c y hy hr),fun y hy p hp hr=>go p hr (h.d y hy p hp hr)⟩
theorem qW.go {par:Nat→List Nat} {n x:Nat} {ids sl M:List Nat} (h:qW par n ids sl (M ++ [x])) (hr:1≤x∧x≤n) (hx:x∉sl):qW par n ids (x::sl) (M++par x):=by
 obtain⟨y0,IZ,hu⟩:=h.b x (by simp) hr;have go:∀ y,y∈sl∨y∈M ++ [x]→y∈x::sl∨y∈M++par x:=by
  intro y hy;rcases hy with hy | hy
  ·exact .inl (List.mem_cons_of_mem _ hy)
  rcases za.1 hy with hy | hy
  ·exact .inr (List.mem_append_left _ hy)
  have e:y=x:=by simpa using hy
  subst e;exact .inl (by simp)
 refine⟨List.nodup_cons.2 ⟨hx,h.nd⟩,fun y hy=>?_,fun y hy=>?_,fun y hy hq=>?_,fun y hy hq=>go y (h.c y hy hq),fun y hy p hp hq=>?_⟩
 ·rcases yx.1 hy with rfl | hy
  ·exact hr
  exact h.rg y hy
 ·rcases yx.1 hy with rfl | hy
  ·exact⟨y0,IZ,hu⟩
  exact h.a y hy
 ·rcases za.1 hy with hy | hy
  ·exact h.b y (List.mem_append_left _ hy) hq
  exact⟨y0,IZ,hu.snoc hy hq⟩
 rcases yx.1 hy with rfl | hy
 ·exact .inr (List.mem_append_right _ hp)
 exact go p (h.d y hy p hp hq)
theorem qW.done (h:qW par n ids sl []) (i:Nat):i∈sl↔∃ y∈ids,bV par n y i:=by
 constructor;·exact h.a i
 rintro⟨y,hy,hu⟩;have h0:y∈sl:=by
  rcases h.c y hy hu.left with h1 | h1
  ·exact h1
  simp at h1
 clear hy;induction hu with
 | refl x h=>exact h0
 | step x p y hx hp hu ih=>
  refine ih ?_;rcases h.d x h0 p hp hu.left with h1 | h1
  ·exact h1
  simp at h1
theorem qW.len {L:List Nat} (h:qW par n ids sl L):sl.length≤n:=QI n sl h.nd h.rg
theorem a0W {B n:Nat} {w:World} {v:Value} (h:w.ownsRow B 35 1 v (M.length+1) (cW (M ++ [x]))) :
  ∃ g cap,v=yC (yP ⟨g,0,yO⟩) (M.length+1) cap∧w.cell? ⟨g,M.length,yO⟩=yP (yE yI x)∧M.length+1≤cap∧w.ownsRow B 35 1 (yC (yP ⟨g,0,yO⟩) M.length cap) M.length (cW M):=by
 have hc:=h;rcases h.2 with ⟨_,h0⟩ | ⟨g,cap,cur,rfl,h1,h2,h3,h4,h5,h6⟩
 ·exact absurd h0 (by simp)
 refine⟨g,cap,rfl,?_,h3,⟨by simp [cW],.inr ⟨g,cap,cur,rfl,h1,h2,by omega,h4,h5,?_⟩⟩⟩
 ·have:=hc.cells (g:=g) rfl M.length (yE yI x) (by simp [cW]);rw [Addr.add_lit] at this
  rwa [Nat.zero_add] at this
 have h7:cur.toList.take ((M.length+1)*1)=cW (M ++ [x]):=h6;have h8:=congrArg (List.take (M.length*1)) h7;rw [List.take_take,Nat.min_eq_left (by omega)] at h8;rw [h8];simp [cW]
def a3H (par:Nat→List Nat) (n:Nat) (ids:List Nat) (w0 w:World) (e:Ending) (w':World):Prop:=
 ∃ mb sl,e = .returned (.map (yP mb))∧MF 35 gu w' mb sl.length (iQ sl)∧(∀ i,i∈sl↔∃ y∈ids,bV par n y i)∧sl.length≤n∧w.heap.size≤mb∧Kept w0 w'
theorem VX (w:World):(zeroValue 3).run yM w = .ok (yE yH 0) w:=by first | exact Tryz.zeroValue3 w | (simp [zeroValue];kernel_rfl)
theorem VH (gb pb n:Nat) (par:Nat→List Nat) (F:Nat→Option Value) (ids:List Nat) (v:Value) (w0 w:World) (hG:GR w0 gb pb n par F) (bF:Kept w0 w) (hv:w.ownsRow w0.heap.size 35 1 v ids.length (cW ids)) (hl:ids.length≤100) (hr:∀ x∈ids,x<4294967296) :
  Calls yM 237 #[yB (yP ⟨gb,0,yO⟩),v] w (a3H par n ids w0 w):=by
 have HG:=yN hG;have hn:=hG.s;have aA:Kept w (w.alloc (.map #[] 0)):=(yk _ w).alloc (ye _) _;have hm:=MF.made 35 gu w;have HR:=yN hr;have HA:=yN (yd (aB bF aA) (yd hm (bT hv aA)));have HB:=yN bF.size;clear aA hm hG bF hv hr;have qV:=@run_makeMap yM;go_enter func237,ntmps237;go_wp2_with fail;clear qV;generalize w.alloc _=w1 at *;obtain⟨mb,vV⟩:∃ mb,mb=w.heap.size:=⟨_,rfl⟩;rw [← vV] at HA ⊢;have HW:Hid (w.heap.size≤mb):=yN (yh vV.symm);have mM:Hid (w0.heap.size≤mb):=yN (by rw [vV];exact HB.o);clear vV HB
 go_loopg [1] (3*n+ids.length) (fun kx s1 wr=>∃ (sl L:List Nat) (v1:Value),v1=s1∧Hid (qW par n ids sl L)∧3*(n-sl.length)+L.length≤kx∧L.length≤ids.length+2*sl.length∧(∀ x∈L,x<4294967296)∧Hid (wr.ownsRow w0.heap.size 35 1 v1 L.length (cW L))∧Hid (MF 35 gu wr mb sl.length (iQ sl))∧Hid (Kept w0 wr))
 case atStart=>
  refine⟨[],ids,_,rfl,yN (qW.start par n ids),by simp,by simp,HR.o,yN HA.o.2.2,yN (HA.o.2.1.funext fun i=>by simp [iQ]),yN HA.o.1⟩
 obtain⟨sl,L,v1,rfl,HD,hm,hL,hLr,HV,HM,HK⟩:=hrel;have M9:=yN (HG.o.kept HK.o);have pB:=HD.o.len;rcases List.eq_nil_or_concat L with rfl | ⟨M,x,rfl⟩
 ·obtain⟨a,c,rfl⟩:∃ a c,v1=yC a 0 c:=(dH HV.o).shape;go_wp2_with fail;go_ret;exact⟨mb,sl,rfl,HM.o,HD.o.done,pB,HW.o,HK.o⟩
 rw [List.concat_eq_append] at *;have hlm:(M ++ [x]).length=M.length+1:=by simp
 rw [hlm] at HV hm hL;have hx:x<4294967296:=hLr x (by simp);have YY:∀ y∈M,y<4294967296:=fun y hy=>hLr y (List.mem_append_left _ hy);obtain⟨g,cap,rfl,e0,iE,a7U⟩:=a0W (n:=0) HV.o;have HP:=yN a7U;have cD:(0:Int)<(M.length:Int)+1:=by omega
 have c1:yH.wrap ((M.length:Int)+1-1)=(M.length:Int):=by rw [zk];omega
 have c2:(M.length:Int)+1-1=(M.length:Int):=by omega
 clear a7U HV hLr hlm;go_wp2_with fail;have hlk:=(HM.o.look oP underlying314 VX (u7 hx)).2;by_cases dI:1≤x∧x≤n
 ·by_cases hs:x∈sl
  ·have hf:iQ sl x=yP (yE yH 1):=by simp [iQ,hs]
   rw [hf] at hlk;refine (KU gb pb n x par F wr M9.o hx).mono ?_;rintro e w' ⟨rfl,rfl⟩;rw [decide_eq_true dI];go_wp2_with fail;go_roundg (3*(n-sl.length)+M.length);case measure=>omega
   exact⟨sl,M,_,rfl,yN (HD.o.skip (.inr hs)),ye _,by omega,YY,HP,HM,HK⟩
  have hf:iQ sl x=yO:=by simp [iQ,hs]
  rw [hf] at hlk;have hD':=HD.o.go dI hs;have hl':=hD'.len;rw [zh] at hl';have hput:=HM.o.put KO oP underlying314 (by unfold maxLen;omega) (u7 hx) (yE yH 1);rw [hf] at hput;obtain⟨w5,hrun,hmf,kZ⟩:=hput;have a7V:MF 35 gu w5 mb (x::sl).length (iQ (x::sl)):=by
   rw [zh];refine MF.funext hmf fun i=>?_;unfold iQ;by_cases e:i=x;·subst e;simp
   simp [e]
  have bQ:Kept w0 w5:=yn HK.o (kZ.below (B:=w0.heap.size) mM.o);have hG5:=HG.o.kept bQ;have hgm:g≠mb:=fun e=>by
   obtain⟨cur,hc⟩:=dX HP.o (g:=g) rfl;obtain⟨es,ck,hb⟩:=HM.o.heap;rw [e,hb] at hc;cases hc
  have hp5:w5.ownsRow w0.heap.size 35 1 (yC (yP ⟨g,0,yO⟩) M.length cap) M.length (cW M):=cF HP.o fun q hq=>by
   cases hq;exact kZ.same g hgm
  obtain⟨vp,f1,f2,f3,f4⟩:=hG5.f x dI.1 dI.2;have c0:=ch 0 hG5.c;have qU:=(hG5.look hx).2;rw [f1] at qU;have EM:=yN (yd a7V (yd bQ (yd hp5 (yd f2 f4))));have HD':=yN hD';have HGM:=yN hgm;clear hmf a7V bQ hG5 hgm hp5 f1 f2 f4 hD' HM HP kZ;refine (KU gb pb n x par F wr M9.o hx).mono ?_;rintro e w' ⟨rfl,rfl⟩;rw [decide_eq_true dI];go_wp2_with (at_builtin;refine aJR eiU rfl _ _ rfl w0.heap.size 0 M.length (par x).length rfl EM.o.2.2.1 EM.o.2.1.size rfl EM.o.2.2.2.1 (aHE _) (by omega) ?_);intro v6 w6 hown gV hgrow _
  have SY:MF 35 gu w6 mb (x::sl).length (iQ (x::sl)):=EM.o.1.stay (hgrow.block mb EM.o.1.lt (fun e=>by
   have e:=Option.some.inj e
   exact HGM.o e.symm))
  have hrow:w6.ownsRow w0.heap.size 35 1 v6 (M++par x).length (cW (M++par x)):=by
   have e1:cW (M++par x)=cW M++cW (par x):=by simp [cW]
   rw [e1,yy];exact hown
  have HR6:=yN hrow;have vW:=yN SY;have dS:=yN (yn EM.o.2.1 gV);have hlt:∀ y∈M++par x,y<4294967296:=fun y hy=>by
   rcases za.1 hy with hy | hy
   ·exact YY y hy
   have:=EM.o.2.2.2.2 y hy;omega
  clear hown gV hgrow SY hrow;go_wp2_with fail;go_roundg (3*(n-(sl.length+1))+(M.length+(par x).length));case measure=>omega
  exact⟨x::sl,M++par x,_,rfl,HD',by simp,by simp;omega,hlt,HR6,vW,dS⟩
 refine (KU gb pb n x par F wr M9.o hx).mono ?_;rintro e w' ⟨rfl,rfl⟩;rw [decide_eq_false dI];go_wp2_with fail;go_roundg (3*(n-sl.length)+M.length);case measure=>omega
 exact⟨sl,M,_,rfl,yN (HD.o.skip (.inl dI)),ye _,by omega,YY,HP,HM,HK⟩
theorem RS (w:World) (x:Nat):(w.alloc (yL #[yE yI x] 35)).ownsRow w.heap.size 35 1 (yC (yP ⟨w.heap.size,0,yO⟩) 1 1) [x].length (cW [x]):=
 ⟨rfl,.inr ⟨w.heap.size,1,#[yE yI x],rfl,ye _,bM w _,ye _,by unfold maxLen;omega,rfl,rfl⟩⟩
theorem aUX (gb pb n tU to:Nat) (par:Nat→List Nat) (F:Nat→Option Value) (w:World) (hG:GR w gb pb n par F) (h1:tU<4294967296) (h2:to<4294967296) :
  Calls yM 236 #[yB (yP ⟨gb,0,yO⟩),yE yI tU,yE yI to] w fun e w'=>∃ r:Bool,e = .returned (yD r)∧(r=true↔bV par n tU to)∧Kept w w':=by
 have aA:=aZ w (yL #[yE yI tU] 35);have HR:=yN (RS w tU);have HK:=yN aA;have HG:=yN hG;go_enter func236,ntmps236;go_wp2_with fail;refine (VH gb pb n par F [tU] _ w _ HG.o HK.o HR.o (by simp) (by simp;exact h1)).mono ?_;rintro e w2 ⟨mb,sl,rfl,hm,hi,hlen,vV,hk⟩;have hlk:=(hm.look oP underlying314 VX (u7 h2)).2;have H7:to∈sl↔bV par n tU to:=by
  rw [hi to];simp
 by_cases hs:to∈sl
 ·have hf:iQ sl to=yP (yE yH 1):=by simp [iQ,hs]
  rw [hf] at hlk;have HX:=yN (yd hk (H7.1 hs));go_wp2_with fail;go_ret;exact⟨_,rfl,⟨fun _=>HX.o.2,fun _=>rfl⟩,HX.o.1⟩
 have hf:iQ sl to=yO:=by simp [iQ,hs]
 rw [hf] at hlk;have HX:=yN (yd hk (fun h=>hs (H7.2 h)));go_wp2_with fail;go_ret;exact⟨_,rfl,⟨fun h=>(by simp at h),fun h=>absurd h HX.o.2⟩,HX.o.1⟩
end
section
open Go.RowKit
theorem Sm.next {S:Nat→Prop} {w wr w2:World} {r:Nat} (h:Sm S w wr) (hr:w.heap.size≤r) (hg:wr.grownBy w2 (yP r)):Sm S w w2:=
 ⟨hg.os.trans h.os,hg.tape.trans h.tape,hg.output.trans h.output,yf h.size hg.size,fun i hi hs=>(hg.block i (yi hi h.size) (fun e=>by have:=Option.some.inj e;omega)).trans (h.same i hi hs)⟩
def rU (F:Nat→Option Value) (pd lf:Nat→Bool) (i:Nat):Option Value:=if (!lf i && pd i)=true then yO else F i
theorem aSN (g:Nat) (cb:Array Value) (b m:Nat) (F:Nat→Option Value) (pd:Nat→Bool) (w:World) (eg:∀ args w,(callFunc g args).run yM w = .ok (.enter g args) w) (h:MF 35 gu w b m F) (hr:∀ i,(F i).isSome=true→i<4294967296)
  (hp:∀ i v wr,F i=yP v→Sm (fun j=>j=b) w wr→Calls yM g (#[yE yI (i:Nat),v]++cb) wr fun e w'=>e = .returned (yD (pd i))∧wr=w') :
  Calls yM 238 #[.map (yP b),yG (.func g) #[] cb] w fun e w'=>e = .returned (.tuple #[])∧(∃ m',MF 35 gu w' b m' (fun i=>if pd i=true then yO else F i))∧Sm (fun j=>j=b) w w':=by
 have HP:=yN hp;have HR:=yN hr;obtain⟨w1,hrun,hrg,aS,hz1⟩:=h.range oP underlying314;have hb:=h.lt;obtain⟨r,fM⟩:∃ r,r=w.heap.size:=⟨_,rfl⟩;rw [← fM] at hrun hrg;have EN:=yN hrg;have HB:Hid (b<r):=yN (by omega);have HK:=yN (Sm.kept (S:=fun j=>j=b) aS);have HZ:=yN (yh fM.symm);clear hp hr h hrg aS hz1 fM hb;go_enter func238,ntmps238;go_wp2_with fail;clear hrun;try go_frame
 go_loopg [4,5] m (fun kx s4 s5 wr=>∃ (m' cnt:Nat) (lf:Nat→Bool),cnt≤kx∧Hid (RG 35 gu wr b r m' (rU F pd lf) lf cnt)∧Hid (Sm (fun j=>j=b) w wr))
 case atStart=>
  refine⟨m,m,fun i=>(F i).isSome,ye _,yN ?_,HK⟩;have:rU F pd (fun i=>(F i).isSome)=F:=by
   funext i;unfold rU;cases hq:F i <;> simp [hq]
  rw [this];exact EN.o
 obtain⟨m',cnt,lf,aKU,HG,HS⟩:=hrel;rcases HG.o.XM (ty:=0) with ⟨h0,hl,hrun⟩ | ⟨i,v,w2,cnt',hl,hf,hrun,hrg2,hlt,hgr,hsz,hen⟩
 ·go_wp2_with fail;go_end0;refine⟨rfl,⟨m',?_⟩,HS.o⟩;refine HG.o.mf.funext fun j=>?_;unfold rU;rw [hl j];simp
 have hf':F i=yP v:=by
  unfold rU at hf;rw [hl] at hf;simpa using hf
 have mO:=yN hrg2;have lU:=yN (HS.o.next HZ.o hgr);have HF:=yN hf';have hi:=HR.o i (by rw [hf'];rfl);have hstep:∀ j,(rU F pd (fun j=>lf j && !decide (j=i)) j)=if (j=i∧pd i=true) then yO else rU F pd lf j:=fun j=>by
  unfold rU;by_cases e:j=i
  ·subst e;rw [hl];cases pd j <;> simp
  simp [e]
 have HST:=yN hstep;clear hrg2 hgr hsz hf hf' hstep hl;go_wp2_with fail;refine (HP.o i v w2 HF.o lU.o).mono ?_;rintro e w' ⟨rfl,rfl⟩;cases hpd:pd i with
 | false=>
  go_wp2_with fail;go_roundg cnt';case measure=>omega
  refine⟨m',cnt',fun j=>lf j && !decide (j=i),ye _,yN ?_,lU⟩;have e:rU F pd (fun j=>lf j && !decide (j=i))=rU F pd lf:=funext fun j=>by
   rw [HST.o j];simp [hpd]
  rw [e];exact mO.o
 | true=>
  obtain⟨w3,aKV,bGV,hrg3,bG3,kZ⟩:=mO.o.drop KO oP underlying314 (u7 hi) 0;obtain⟨m3,zV⟩:∃ m3,m3=(if (rU F pd lf i).isSome=true then m'-1 else m'):=⟨_,rfl⟩;rw [← zV] at hrg3;have HG3:=yN hrg3;have jF:=yN (lU.o.trans (Sm.LG kZ));clear hrg3 kZ zV;go_wp2_with fail;go_roundg aKV;case measure=>omega
  refine⟨m3,aKV,fun j=>lf j && !decide (j=i),ye _,yN ?_,jF⟩;have e:rU F pd (fun j=>lf j && !decide (j=i))=fun j=>if j=i then yO else rU F pd lf j:=funext fun j=>by
   rw [HST.o j];simp [hpd]
  have e2:(fun j=>(lf j && !decide (j=i)) && !decide (j=i))=fun j=>lf j && !decide (j=i):=funext fun j=>by
   cases lf j <;> simp
  rw [e];have:=HG3.o;rw [e2] at this;exact this
theorem aUY (box mb i:Nat) (sl:List Nat) (v:Value) (w:World) (c0:w.cell? ⟨box,0,yO⟩=yP (.map (yP mb))) (hm:MF 35 gu w mb sl.length (iQ sl)) (hi:i<4294967296) :
  Calls yM 239 #[yE yI i,v,yB (yP ⟨box,0,yO⟩)] w fun e w'=>e = .returned (yD (decide (i∉sl)))∧w=w':=by
 have hlk:=(hm.look oP underlying314 VX (u7 hi)).2;by_cases hs:i∈sl
 ·have hf:iQ sl i=yP (yE yH 1):=by simp [iQ,hs]
  rw [hf] at hlk;have hd:decide (i∉sl)=false:=by simp [hs]
  rw [hd];go_enter func239,ntmps239;go_wp2_with fail;go_ret;exact⟨rfl,rfl⟩
 have hf:iQ sl i=yO:=by simp [iQ,hs]
 rw [hf] at hlk;have hd:decide (i∉sl)=true:=by simp [hs]
 rw [hd];go_enter func239,ntmps239;go_wp2_with fail;go_ret;exact⟨rfl,rfl⟩
def a5H (par:Nat→List Nat) (n a b:Nat) (w:World) (e:Ending) (w':World):Prop:=
 ∃ iT:Nat,e = .returned (.tuple #[yE yI iT,yD (decide (0<iT))])∧(∀ i,bV par n a i→bV par n b i→i≤iT)∧(iT=0∨(bV par n a iT∧bV par n b iT))∧Kept w w'
theorem aYE (gb pb n a b:Nat) (par:Nat→List Nat) (F:Nat→Option Value) (w:World) (hG:GR w gb pb n par F) (h1:a<4294967296) (h2:b<4294967296) :
  Calls yM 173 #[yB (yP ⟨gb,0,yO⟩),yE yI a,yE yI b] w (a5H par n a b w):=by
 have uM:=hG.s;have aA:=aZ w (yL #[yE yI a] 35);have HR:=yN (RS w a);have HK:=yN aA;have HG:=yN hG;clear aA hG;go_enter func173,ntmps173;go_wp2_with fail;refine (VH gb pb n par F [a] _ w _ HG.o HK.o HR.o (by simp) (by simp;exact h1)).mono ?_;rintro e w2 ⟨mb,sl,rfl,hm,hi,hlen,vV,hk⟩;have HM:=yN hm;have HI:=yN hi;rw [World.size_alloc] at vV;have HMW:Hid (w.heap.size≤mb):=yN (by omega);have mO:=yN (HG.o.kept hk);have aA:=aZ w2 (yL #[yE yI b] 35);have zW:=yN (RS w2 b);have aH:=yN aA;have cJ:=yN hk;clear aA hm hi hk vV HR HK;go_wp2_with fail;refine (VH gb pb n par F [b] _ w2 _ mO.o aH.o zW.o (by simp) (by simp;exact h2)).mono ?_;rintro e w3 ⟨NC,SZ,rfl,hm,hi,aJO,vV,hk⟩;rw [World.size_alloc] at vV;have ND:=yN hm;have uN:=yN hi;have HM1:=yN (HM.o.kept hk);have hne:mb≠NC:=by have:=HM.o.lt;omega
 obtain⟨a7W,S5⟩:=aW w3 (yL #[.map (yP NC)] 314);obtain⟨bx,j9⟩:∃ bx,bx=w3.heap.size:=⟨_,rfl⟩;have aL:=yN (yd (aB cJ.o hk) (yd a7W (yd S5 j9)));clear hm hi hk vV zW aH a7W S5 j9;go_wp2_with fail;have j9:=aL.o.2.2.2;have h0:=aL.o.2.1;have qX:=aL.o.2.2.1;have uF:=aL.o.1;rw [← j9] at qX ⊢;generalize w3.alloc _=w4 at *;have aR:=yN (aB uF h0);have oC:=yN (HM1.o.kept h0);have aKW:=yN (ND.o.kept h0);have xO:Hid (w4.cell? ⟨bx,0,yO⟩=yP (.map (yP NC))):=yN (aG qX rfl);have hbm:bx≠mb:=by have:=HM1.o.lt;omega
 clear h0 qX uF j9 aL;refine (aSN 239 #[yB (yP ⟨bx,0,yO⟩)] mb sl.length (iQ sl) (fun i=>decide (i∉SZ)) w4 (enters_of func239 (by kernel_rfl) rfl) oC.o (fun i hi=>?_) (fun i v wr hv hs=>?_)).mono ?_
 ·have:i∈sl:=by
   by_cases e:i∈sl;·exact e
   simp [iQ,e] at hi
  have:=((HI.o i).1 this);obtain⟨y,_,hu⟩:=this;have:=hu.right;omega
 ·have dI:i∈sl:=by
   by_cases e:i∈sl;·exact e
   simp [iQ,e] at hv
  obtain⟨y,_,hu⟩:=(HI.o i).1 dI;have hr:=hu.right;refine aUY bx NC i SZ v wr (hs.cell xO.o (fun e=>hbm e)) (aKW.o.stay (hs.same NC aKW.o.lt (fun e=>hne e.symm))) (by omega)
 rintro e w5 ⟨rfl,⟨m',NF⟩,hs5⟩
 have bQ:Kept w w5:=yn aR.o (hs5.below (B:=w.heap.size) (fun i hi=>by
  subst hi
  exact HMW.o) aR.o.size)
 obtain⟨F3,hF3⟩:∃ F3:Nat→Option Value,F3=fun i=>if decide (i∉SZ)=true then yO else iQ sl i:=⟨_,rfl⟩;rw [← hF3] at NF;have hF:∀ i,(F3 i).isSome=true↔(bV par n a i∧bV par n b i):=fun i=>by
  have e1:=HI.o i;have e2:=uN.o i;simp only [List.mem_singleton,exists_eq_left] at e1 e2;rw [← e1,← e2,hF3];unfold iQ;by_cases x1:i∈sl <;> by_cases x2:i∈SZ <;> simp [x1,x2]
 obtain⟨w6,hrun,hrg,kA,hz6⟩:=NF.range oP underlying314;obtain⟨r,fM⟩:∃ r,r=w5.heap.size:=⟨_,rfl⟩;rw [← fM] at hrun hrg;have EN:=yN hrg;have dS:=yN (aB bQ kA);have HRW:Hid (w.heap.size≤r):=yN (by rw [fM];exact bQ.size);have HF:=yN hF;clear NF hs5 bQ hF3 hF hrg kA hz6 fM oC aKW xO aR HM1 ND HI uN HG mO HM cJ;go_wp2_with fail;clear hrun;try go_frame
 go_loopg [10,11] m' (fun kx cK jN wr=>∃ (iT cnt:Nat) (lf:Nat→Bool),cK=yE yI iT∧iT≤100∧cnt≤kx∧(∀ i,(F3 i).isSome=true→lf i=false→i≤iT)∧(iT=0∨(F3 iT).isSome=true)∧Hid (RG 35 gu wr mb r m' F3 lf cnt)∧Hid (Kept w wr))
 case atStart=>exact⟨0,m',fun i=>(F3 i).isSome,rfl,by omega,ye _,fun i h1 h2=>absurd (h1.symm.trans h2) (by simp),.inl rfl,EN,dS⟩
 obtain⟨iT,cnt,lf,rfl,oD,aKU,hall,LH,HG,HK⟩:=hrel;rcases HG.o.XM (ty:=0) with ⟨h0,hl,hrun⟩ | ⟨i,v,w2,cnt',hl,hf,hrun,hrg2,hlt,hgr,hsz,hen⟩
 ·have HX:Hid ((∀ i,bV par n a i→bV par n b i→i≤iT)∧(iT=0∨(bV par n a iT∧bV par n b iT))):=yN ⟨fun i h1 h2=>hall i ((HF.o i).2 ⟨h1,h2⟩) (hl i),by
   rcases LH with h | h
   ·exact .inl h
   exact .inr ((HF.o iT).1 h)⟩
  clear hall LH;go_wp2_with fail;go_ret2;exact⟨iT,by simp,HX.o.1,HX.o.2,HK.o⟩
 have hup:=(HF.o i).1 (by rw [hf];rfl);have hir:=hup.1.right;have mO:=yN hrg2;have aH:=yN (Below.grown HK.o hgr HK.o.size (fun g hg=>by cases hg;exact HRW.o));have a5I:∀ j,(F3 j).isSome=true→(lf j && !decide (j=i))=false→j≤max iT i:=fun j h1 h2=>by
  by_cases e:j=i;·omega
  have:=hall j h1 (by simpa [e] using h2);omega
 have a3I:max iT i=0∨(F3 (max iT i)).isSome=true:=by
  by_cases e:iT≤i;·rw [Nat.max_eq_right e];exact .inr (by rw [hf];rfl)
  rw [Nat.max_eq_left (by omega)];exact LH
 have HB:=yN (yd a5I a3I);clear hup hrg2 hgr hall LH a5I a3I hf hl hsz;go_wp2_with fail;all_goals go_roundg cnt'
 all_goals first
  | omega
  | exact⟨max iT i,cnt',fun j=>lf j && !decide (j=i),by congr 1;omega,by omega,ye _,HB.o.1,HB.o.2,mO,aH⟩
end
section
variable {g:Mp}
def mH:Key:=⟨#[109,97,105,110]⟩
def nU:Key:=⟨#[115,105,100,101]⟩
theorem GD:nU≠mH:=by decide
def iL (a b:Nat) (k:Key):Option Nat:=if k=mH then yP a else if k=nU then yP b else yO
theorem QQ (a b c:Nat):(fun k=>if k=mH then yP c else iL a b k)=iL c b:=by
 funext k;unfold iL;split <;> rfl
theorem aGO (a b c:Nat):(fun k=>if k=nU then yP c else iL a b k)=iL a c:=by
 funext k;unfold iL;by_cases h:k=nU;·subst h;rw [if_pos rfl,if_neg GD,if_pos rfl]
 simp [h]
theorem XX (a b:Nat):iL a b mH=yP a:=by unfold iL;rw [if_pos rfl]
theorem XY (a b:Nat):iL a b nU=yP b:=by unfold iL;rw [if_neg GD,if_pos rfl]
theorem aH0 (a b:Nat) (k:Key) (i:Nat):iL a b k=yP i↔(k=mH∧i=a)∨(k=nU∧i=b):=by
 unfold iL;by_cases h:k=mH;·subst h;simp [Ne.symm GD,eq_comm]
 by_cases h2:k=nU
 ·subst h2;rw [if_neg h,if_pos rfl];constructor;·intro e;cases e;exact .inr ⟨rfl,rfl⟩
  rintro (⟨e,_⟩ | ⟨_,rfl⟩);·exact absurd e h
  rfl
 simp [h,h2]
structure LS (n a b:Nat) (par:Nat→List Nat) (tm:Nat→Mp) (A:Nat→Prop):Prop where
 a1:1≤a∧a≤n
 b1:1≤b∧b≤n
 p1:par 1=[]
 ps:∀ i,2≤i→i≤n→∃ p,par i=[p]∧1≤p∧p<i∧(p=1∨(A p↔A i))
 aa:a=1∨A a
 bb:b=1∨¬ A b
 few:∀ i,aM (tm i) 28
theorem LS.first {par:Nat→List Nat} {tm:Nat→Mp} (hp:par 1=[]) (hf:∀ i,aM (tm i) 28):LS 1 1 1 par tm (fun _=>True):=
 ⟨⟨by omega,by omega⟩,⟨by omega,by omega⟩,hp,fun i h1 h2=>by omega,.inl rfl,.inl rfl,hf⟩
variable {n a b:Nat} {par:Nat→List Nat} {tm:Nat→Mp} {A:Nat→Prop}
theorem LS.main (h:LS n a b par tm A) (hg:aM g 28):LS (n+1) (n+1) b (fun i=>if i=n+1 then [a] else par i) (fun i=>if i=n+1 then g else tm i) (fun i=>i=n+1∨A i):=by
 refine⟨⟨by omega,by omega⟩,⟨h.b1.1,by have:=h.b1.2;omega⟩,?_,fun i h1 h2=>?_,.inr (.inl rfl),?_,fun i=>?_⟩;·have:=h.a1;show (if 1=n+1 then _ else _)=_;rw [if_neg (by omega)];exact h.p1
 ·by_cases e:i=n+1
  ·refine⟨a,by show (if i=n+1 then _ else _)=_;rw [if_pos e],h.a1.1,by have:=h.a1.2;omega,?_⟩;rcases h.aa with h3 | h3
   ·exact .inl h3
   exact .inr ⟨fun _=>.inl e,fun _=>.inr h3⟩
  obtain⟨p,q1,q2,q3,q4⟩:=h.ps i h1 (by omega);refine⟨p,by show (if i=n+1 then _ else _)=_;rw [if_neg e];exact q1,q2,q3,?_⟩;rcases q4 with q4 | q4
  ·exact .inl q4
  have:p≠n+1:=by omega
  exact .inr (by simp [this,e,q4])
 ·rcases h.bb with h3 | h3
  ·exact .inl h3
  refine .inr fun h4=>?_;rcases h4 with h4 | h4
  ·have:=h.b1.2;omega
  exact h3 h4
 show aM (if i=n+1 then _ else _) 28
 split
 ·exact hg
 exact h.few i
theorem LS.side (h:LS n a b par tm A) (hg:aM g 28):LS (n+1) a (n+1) (fun i=>if i=n+1 then [b] else par i) (fun i=>if i=n+1 then g else tm i) (fun i=>i≠n+1∧A i):=by
 refine⟨⟨h.a1.1,by have:=h.a1.2;omega⟩,⟨by omega,by omega⟩,?_,fun i h1 h2=>?_,?_,.inr (fun h4=>h4.1 rfl),fun i=>?_⟩;·have:=h.a1;show (if 1=n+1 then _ else _)=_;rw [if_neg (by omega)];exact h.p1
 ·by_cases e:i=n+1
  ·refine⟨b,by show (if i=n+1 then _ else _)=_;rw [if_pos e],h.b1.1,by have:=h.b1.2;omega,?_⟩;rcases h.bb with h3 | h3
   ·exact .inl h3
   exact .inr ⟨fun h4=>absurd h4.2 h3,fun h4=>absurd e h4.1⟩
  obtain⟨p,q1,q2,q3,q4⟩:=h.ps i h1 (by omega);refine⟨p,by show (if i=n+1 then _ else _)=_;rw [if_neg e];exact q1,q2,q3,?_⟩;rcases q4 with q4 | q4
  ·exact .inl q4
  have:p≠n+1:=by omega
  exact .inr (by simp [this,e,q4])
 ·rcases h.aa with h3 | h3
  ·exact .inl h3
  exact .inr ⟨by have:=h.a1.2;omega,h3⟩
 show aM (if i=n+1 then _ else _) 28
 split
 ·exact hg
 exact h.few i
theorem LS.top (h:LS n a b par tm A):∀ i,1≤i→i≤n→bV par n i 1:=by
 intro i;induction i using Nat.strongRecOn with
 | _ i ih=>
  intro h1 h2;by_cases e:i=1;·subst e;exact .refl 1 ⟨h1,h2⟩
  obtain⟨p,q1,q2,q3,_⟩:=h.ps i (by omega) h2;exact .step i p 1 ⟨h1,h2⟩ (by rw [q1];simp) (ih p q3 q2 (by omega))
theorem LS.UF (h:LS n a b par tm A) {x y:Nat} (hu:bV par n x y):y=1∨(x≠1∧y≠1∧(A y↔A x)):=by
 induction hu with
 | refl x hx=>by_cases e:x=1;exact .inl e;exact .inr ⟨e,e,Iff.rfl⟩
 | step x p y hx hp hu ih=>
  rcases ih with ih | ⟨i1,i2,i3⟩
  ·exact .inl ih
  by_cases e:x=1;·subst e;rw [h.p1] at hp;cases hp
  obtain⟨q,q1,q2,q3,q4⟩:=h.ps x (by omega) hx.2;rw [q1] at hp;simp at hp;subst hp;rcases q4 with q4 | q4
  ·exact absurd q4 i1
  exact .inr ⟨e,i2,i3.trans q4⟩
theorem LS.ab (h:LS n a b par tm A) (hu:bV par n a b):b=1:=by
 rcases h.UF hu with e | ⟨h1,h2,h3⟩
 ·exact e
 exact absurd (h3.2 (h.aa.resolve_left h1)) (h.bb.resolve_left h2)
theorem LS.ba (h:LS n a b par tm A) (hu:bV par n b a):a=1:=by
 rcases h.UF hu with e | ⟨h1,h2,h3⟩
 ·exact e
 exact absurd (h3.1 (h.aa.resolve_left h2)) (h.bb.resolve_left h1)
theorem LS.meet (h:LS n a b par tm A) {m:Nat} (h1:bV par n a m) (h2:bV par n b m):m=1:=by
 rcases h.UF h1 with e | ⟨p1,p2,p3⟩
 ·exact e
 rcases h.UF h2 with e | ⟨q1,q2,q3⟩
 ·exact e
 exact absurd (q3.1 (p3.2 (h.aa.resolve_left p1))) (h.bb.resolve_left q1)
theorem aH1 {f k:Mp} (hf:aM f 28) (hg:aM g 28) (hk:aM k 28) (aN:Nat):aM (fun x=>(cO (f x) (g x) (k x) aN).1) 1000:=by
 obtain⟨s1,l1,m1⟩:=hf;obtain⟨s2,l2,m2⟩:=hg;obtain⟨s3,l3,m3⟩:=hk;refine⟨s1++s2++s3,by simp;omega,fun x v hv=>?_⟩;have h:f x=yP v∨g x=yP v∨k x=yP v:=by
  have hv:(cO (f x) (g x) (k x) aN).1=yP v:=hv;unfold cO at hv
  split at hv
  ·exact .inr (.inl hv)
  split at hv
  ·exact .inr (.inr hv)
  split at hv
  ·exact .inr (.inl hv)
  split at hv
  ·exact .inr (.inr hv)
  exact .inl hv
 rcases h with h | h | h
 ·have:=m1 x v h;exact⟨by simp [this.1],this.2⟩
 ·have:=m2 x v h;exact⟨by simp [this.1],this.2⟩
 have:=m3 x v h;exact⟨by simp [this.1],this.2⟩
theorem aWZ {br:Key→Option Nat} {a b:Nat} {l:List (Key × Nat)} (hb:br=iL a b) (h1:l.Pairwise fun x y=>lt x.1 y.1=true) (h2:∀ k i,(k,i)∈l↔br k=yP i):l=[(mH,a),(nU,b)]:=by
 subst hb;have hms:lt mH nU=true:=by decide
 have hm:∀ x,x∈l↔(x=(mH,a)∨x=(nU,b)):=by
  rintro⟨k,i⟩;rw [h2,aH0];simp
 cases l with
 | nil=>exact absurd ((hm (mH,a)).2 (.inl rfl)) (by simp)
 | cons x l=>
  rw [yz] at h1;have hx:x=(mH,a):=by
   rcases (hm x).1 (by simp) with e | e
   ·exact e
   have:=(hm (mH,a)).2 (.inl rfl);rcases yx.1 this with e2 | e2
   ·exact e2.symm
   have h3:=h1.1 _ e2;rw [e] at h3;rw [C1 hms] at h3;cases h3
  subst hx;cases l with
  | nil=>
   have:=(hm (nU,b)).2 (.inr rfl);simp at this;exact absurd this.1 GD
  | cons y l=>
   have hy:∀ z,z∈y::l→z=(nU,b):=fun z hz=>by
    rcases (hm z).1 (List.mem_cons_of_mem _ hz) with e | e
    ·have:=h1.1 z hz;rw [e,lt_irrefl] at this;cases this
    exact e
   have e1:=hy y (by simp);subst e1;cases l with
   | nil=>rfl
   | cons z l=>
    have e2:=hy z (by simp);have h3:=h1.2;rw [yz] at h3;have:=h3.1 z (by simp);rw [e2,lt_irrefl] at this;cases this
end
end Go.Proofs.YtcldomgdkhenpaaGreat
