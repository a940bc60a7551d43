/- Lemmas. -/
import Derived.Test.YtcldomgdkhenpaaGreatJ07
import Derived.Deep.Slices
set_option linter.unusedVariables false
set_option maxRecDepth 1000000
set_option maxHeartbeats 40000000
open Go.Proofs.Tryz
open Go.Proofs.Tryz renaming prog → yM
open Go.Value renaming string → yA,slice → yC,bool → yD,int → yE,agg → yF,func → yG
open Go.IntKind renaming i64 → yH,u64 → yJ
open Go.Obj renaming cells → yL
open Option renaming none → yO,some → yP
open Array renaming getElem?_eq_some_iff → yo
open Go.RowKit.Below renaming refl → yk
open List renaming length_append → yy,length_cons → zh
open Nat renaming le_refl → ye,zero_le → yg
open Go.RowKit
namespace Go.Proofs.YtcldomgdkhenpaaGreat
section
open Go.Sort Go.Shelf
variable {g cap B n:Nat} {e:TypeId} {w:World}
section
variable {α:Type} [Inhabited α] {enc:α→List Value} {k:Nat}
theorem aFK (hk:∀ x,(enc x).length=k) (l:List α):(flatK enc k l.toArray).toList=l.flatMap enc:=by
 induction l with
 | nil=>simp [flatK]
 | cons x l ih=>
  have hlen:∀ m:List α,(m.flatMap enc).length=m.length*k:=fun m=>by
   induction m with
   | nil=>simp
   | cons y m im=>rw [List.flatMap_cons,yy,im,hk,zh,Nat.add_mul];omega
  apply List.ext_getElem (by simp [hlen,hk,Nat.add_mul];omega);intro i h1 h2;have hi:i<(l.length+1)*k:=by simpa using h1
  have e1:=get_flatK enc k (x::l).toArray i (by simpa using hi);rw [getElem!_pos _ _ (by simpa using hi)] at e1;rw [Array.getElem_toList,e1];by_cases hik:i<k
  ·have:i / k=0:=Nat.div_eq_of_lt hik;rw [this,Nat.mod_eq_of_lt hik];simp only [List.flatMap_cons];rw [List.getElem_append_left (by rw [hk];exact hik)];simp [hk,hik]
  have bF:0<k:=by
   rcases Nat.eq_zero_or_pos k with h | h
   ·subst h;simp at hi
   exact h
  obtain⟨j,rfl⟩:∃ j,i=k+j:=⟨i-k,by omega⟩;have hj:j<l.length*k:=by rw [Nat.add_mul] at hi;omega
  have e2:=get_flatK enc k l.toArray j (by simpa using hj);rw [getElem!_pos _ _ (by simpa using hj)] at e2;simp only [List.flatMap_cons];rw [List.getElem_append_right (by rw [hk];omega)];have e3:(l.flatMap enc)[k+j-(enc x).length]'(by rw [hlen,hk];omega)=(flatK enc k l.toArray)[j]'(by simpa using hj):=by
   rw [← Array.getElem_toList];simp only [ih,hk,Nat.add_sub_cancel_left]
  rw [e3,e2,Nat.add_div_left _ bF,Nat.add_mod_left];simp
theorem aGD {l:List α} (hk:∀ x,(enc x).length=k) (h:w.ownsRow B e k (yC (yP ⟨g,0,yO⟩) l.length cap) l.length (l.flatMap enc)):HoldsK enc k w g 0 l.toArray:=by
 obtain⟨cur,hb⟩:=dX h (g:=g) rfl;intro j hj;have hj':j<l.length*k:=by simpa using hj
 have e1:((flatK enc k l.toArray).toList)[j]?=yP ((flatK enc k l.toArray)[j]!):=by
  rw [Array.getElem?_toList,Array.getElem?_eq_getElem hj,getElem!_pos (flatK enc k l.toArray) j hj]
 rw [aFK hk] at e1;have:=h.cells (g:=g) rfl j _ e1;rw [Addr.add_lit] at this;exact⟨this,by simp [World.frozen?,hb]⟩
theorem aQU {os:Array Obj} {cur:Array Value} {fr:Nat × Nat} (d:Array α) (hb:w.heap[g]?=yP (yL cur e fr)) :
  (sortWorldK enc k w g 0 n d os).heap[g]?=yP (yL (putCells id 0 (flatK enc k d) cur) e fr):=by
 have hg:g<w.heap.size:=(yo.1 hb).1;unfold sortWorldK;rw [heap_grow_old _ _ (by simpa [putRowK] using hg)];simp [putRowK,putRow,mapBlock,Sort.ahead,Array.getElem?_modify,hb,onCells]
theorem aD5 {os:Array Obj} (d:Array α):w.grownBy (sortWorldK enc k w g 0 n d os) (yP g):=by
 unfold sortWorldK;refine⟨rfl,rfl,rfl,by simp [putRowK],fun i hi hne=>?_⟩;rw [heap_grow_old _ _ (by simpa [putRowK] using hi)];have:g≠i:=fun e=>hne (by rw [e]);simp [putRowK,putRow,mapBlock,Sort.ahead,Array.getElem?_modify,this]
theorem aP0 (cur:Array Value) (F:Array Value) (h:F.size≤cur.size):(putCells id 0 F cur).toList.take F.size=F.toList:=by
 apply List.ext_getElem?;intro j;by_cases hj:j<F.size
 ·rw [List.getElem?_take_of_lt hj,Array.getElem?_toList];simp [putCells,hj,show j<cur.size by omega]
 rw [List.getElem?_take_eq_none (by omega),List.getElem?_eq_none (by simp;omega)]
theorem aET {os:Array Obj} {l s:List α} (hk:∀ x,(enc x).length=k) (hl:s.length=l.length) (h:w.ownsRow B e k (yC (yP ⟨g,0,yO⟩) l.length cap) l.length (l.flatMap enc)) :
  (sortWorldK enc k w g 0 n s.toArray os).ownsRow B e k (yC (yP ⟨g,0,yO⟩) s.length cap) s.length (s.flatMap enc):=by
 have hF:=aFK hk s;have hs:(flatK enc k s.toArray).size=s.length*k:=by simp
 rcases h.2 with ⟨he,_⟩ | ⟨g',cap',cur,he,hb,hg,hn,hc,hz,ht⟩
 ·cases he
 cases he;refine⟨by rw [← hF,Array.length_toList,hs],.inr ⟨g,cap,_,rfl,hb,aQU _ hg,by omega,hc,by simp [putCells,hz],?_⟩⟩;rw [← hs,aP0 _ _ (by rw [hs,hz];exact Nat.mul_le_mul_right _ (by omega)),hF]
end
def IC (c:Cg):List Value:=[yA c.key,yA c.old,yA c.new,yD c.was,yD c.is]
theorem aGE (l:List Cg):oY l=l.flatMap IC:=by
 induction l with
 | nil=>rfl
 | cons c l ih=>rw [List.flatMap_cons,← ih];rfl
instance:Inhabited Cg:=⟨⟨⟨#[]⟩,⟨#[]⟩,⟨#[]⟩,false,false⟩⟩
def OS (a b:Cg):Int:=ord a.key b.key
theorem TQ (a b:Cg):ltOf OS a b=lt a.key b.key:=by
 unfold ltOf OS;rw [Bool.eq_iff_iff,decide_eq_true_eq];exact tS _ _
theorem a8S:SWO (ltOf OS) where
 irrefl x:=by rw [TQ];exact lt_irrefl _
 trans x y z h1 h2:=by rw [TQ] at *;exact lt_trans h1 h2
 ntrans x y z h1 h2:=by
  rw [TQ] at *;cases h3:lt x.key z.key with
  | false=>rfl
  | true=>
   rcases GY x.key y.key with e | e | e
   ·rw [e] at h3;rw [h3] at h2;cases h2
   ·rw [e] at h1;cases h1
   have:=lt_trans e h3;rw [this] at h2;cases h2
theorem aV3 (a b:Cg) (W:World):Calls yM 189 #[.agg (IC a).toArray,.agg (IC b).toArray] W fun e w'=>e = .returned (yE yH (OS a b))∧∃ q os,w'=grow (W.drewN q) os:=by
 obtain⟨ka,oa,na,wa,ia⟩:=a;obtain⟨kb,ob,nb,wb,ib⟩:=b;have hA:(W.alloc (yL #[yA ka,yA oa,yA na,yD wa,yD ia] 109)).heap[W.heap.size]?=_:=bM W _;have aA:Kept (W.alloc (yL #[yA ka,yA oa,yA na,yD wa,yD ia] 109)) ((W.alloc (yL #[yA ka,yA oa,yA na,yD wa,yD ia] 109)).alloc (yL #[yA kb,yA ob,yA nb,yD wb,yD ib] 109)):=(yk _ _).alloc (ye _) _;have mC:=(aA.block W.heap.size (by simp)).trans hA;have eB:=bM (W.alloc (yL #[yA ka,yA oa,yA na,yD wa,yD ia] 109)) (yL #[yA kb,yA ob,yA nb,yD wb,yD ib] 109);rw [World.size_alloc] at eB;have a0:=ch 0 mC;have b0:=ch 0 eB;show Calls yM 189 #[yF #[yA ka,yA oa,yA na,yD wa,yD ia],yF #[yA kb,yA ob,yA nb,yD wb,yD ib]] W _;go_enter func189,ntmps189;go_wp2_with fail;refine (UW ka kb _).mono ?_;rintro e w' ⟨rfl,rfl⟩;go_wp2_with fail;go_ret;refine⟨rfl,0,#[yL #[yA ka,yA oa,yA na,yD wa,yD ia] 109,yL #[yA kb,yA ob,yA nb,yD wb,yD ib] 109],?_⟩;rw [alloc_eq_grow,alloc_eq_grow,grow_grow];rfl
theorem aEU {α:Type} [Inhabited α] {lt:α→α→Bool} {l:List α} {d':Array α} (hp:PermIn 0 l.toArray.size l.toArray d') (hs:SortedIn lt 0 l.toArray.size d'):d'.toList.Perm l∧d'.toList.Pairwise (fun a b=>lt b a=false):=by
 obtain⟨h1,h2,h3⟩:=hp;have e1:d'.extract 0 l.toArray.size=d':=by rw [← h1];simp
 have e2:l.toArray.extract 0 l.toArray.size=l.toArray:=by simp
 rw [e1,e2] at h3;refine⟨h3,?_⟩;rw [List.pairwise_iff_getElem];intro i j hi hj gX;have hj':j<d'.size:=by simpa using hj
 have:=hs i j (yg _) gX (by rw [← h1];exact hj');rw [getElem!_pos d' j hj',getElem!_pos d' i (by omega)] at this;simpa using this
theorem aRV (B g cap:Nat) (l:List Cg) (w:World) (h:w.ownsRow B 109 5 (yC (yP ⟨g,0,yO⟩) l.length cap) l.length (oY l)) (hl:l.length≤100000) :
  Calls yM 188 #[yC (yP ⟨g,0,yO⟩) l.length cap,yG (.func 189) #[] #[]] w fun e w'=>e = .returned (.tuple #[])∧∃ s:List Cg,s.Perm l∧s.Pairwise (fun a b=>lt b.key a.key=false)∧w'.ownsRow B 109 5 (yC (yP ⟨g,0,yO⟩) l.length cap) s.length (oY s)∧w.grownBy w' (yP g):=by
 rw [aGE] at h;have hk:∀ x,(IC x).length=5:=fun x=>rfl
 have h1:=AnyQ.slices_SortFunc (P:=yM) (ρ:=F4) KY 5 Tryz.isAgg109 Tryz.sizeOf109 IC hk (fun x v hv=>by simp [IC] at hv;rcases hv with rfl | rfl | rfl | rfl | rfl <;> rfl) OS a8S 189 #[] g 0 cap l.toArray w
  (enters_of func189 (by kernel_rfl) rfl) (fun m os dk hs x y=>aV3 x y _) (aGD hk h) (h.lt g rfl).2 (by simp;omega)
 have e0:l.toArray.size=l.length:=by simp
 change Calls yM 188 _ _ _ at h1;rw [e0] at h1;refine h1.mono ?_;rintro e w' ⟨rfl,d',n,os,hp,hs,rfl⟩;rw [← e0] at hp hs;obtain⟨p1,p2⟩:=aEU hp hs;have hlen:d'.toList.length=l.length:=p1.length_eq;refine⟨rfl,d'.toList,p1,p2.imp fun {a b} hab=>by rw [TQ] at hab;exact hab,?_,aD5 d'⟩;have:=aET (n:=n) (os:=os) (s:=d'.toList) hk hlen h;rw [aGE];rw [hlen] at this ⊢;exact this
theorem aTH (fv:Value) (w:World):Calls yM 327 #[yC yO 0 0,yE yH 0,yE yH 0,fv] w fun e w'=>e = .returned (.tuple #[])∧w=w':=by
 go_enter func327,ntmps327;go_wp2_with fail
 go_loopg [8] 0 (fun kx s8 wr=>s8=yE yH 1∧wr=w)
 case atStart=>exact⟨rfl,rfl⟩
 obtain⟨rfl,rfl⟩:=hrel;go_wp2_with fail;go_end0;exact⟨rfl,rfl⟩
theorem aTI (fv:Value) (lim:Int) (w:World):Calls yM 265 #[yC yO 0 0,yE yH 0,yE yH 0,yE yH lim,fv] w fun e w'=>e = .returned (.tuple #[])∧w=w':=by
 go_enter func265,ntmps265;go_wp2_with fail
 go_loopg [1,2,3,10,11] 0 (fun kx s1 s2 s3 cK jN wr=>s1=yE yH 0∧s2=yE yH 0∧wr=w)
 case atStart=>exact⟨rfl,rfl,rfl⟩
 obtain⟨rfl,rfl,rfl⟩:=hrel;go_wp2_with fail;refine (aTH fv _).mono ?_;rintro e w' ⟨rfl,rfl⟩;go_wp2_with fail;refine bodyPost_ret (results_none rfl _ _ _) rfl ?_;exact⟨rfl,rfl⟩
theorem aRW (fv:Value) (w:World):Calls yM 188 #[yC yO 0 0,fv] w fun e w'=>e = .returned (.tuple #[])∧w=w':=by
 have hl:Calls yM 266 #[yE yJ 0] w fun e w'=>e = .returned (yE yH (Lib.bitLen 0:Nat))∧w'=w:=Any.bits_Len (SlLaysF0.n15.bits (P:=yM) (ρ:=F4) { KY with }) 0 w (by omega) (by omega);go_enter func188,ntmps188;go_wp2_with fail;refine hl.mono ?_;rintro e w' ⟨rfl,rfl⟩;go_wp2_with fail;refine (aTI fv _ _).mono ?_;rintro e w' ⟨rfl,rfl⟩;go_wp2_with fail;go_end0;exact⟨rfl,rfl⟩
theorem aFL (B:Nat) (v:Value) (l:List Cg) (w:World) (h:w.ownsRow B 109 5 v l.length (oY l)) (hl:l.length≤100000) :
  Calls yM 188 #[v,yG (.func 189) #[] #[]] w fun e w'=>e = .returned (.tuple #[])∧∃ s:List Cg,s.Perm l∧s.Pairwise (fun a b=>lt b.key a.key=false)∧w'.ownsRow B 109 5 v s.length (oY s)∧w.grownBy w' v.ownBlock:=by
 rcases h.2 with ⟨rfl,hn⟩ | ⟨g,cap,cur,rfl,_⟩
 ·have hl0:l=[]:=List.eq_nil_of_length_eq_zero hn;subst hl0;refine (aRW _ w).mono ?_;rintro e w' ⟨rfl,rfl⟩;exact⟨rfl,[],List.Perm.refl _,List.Pairwise.nil,h,⟨rfl,rfl,rfl,ye _,fun _ _ _=>rfl⟩⟩
 exact aRV B g cap l w h hl
end
end Go.Proofs.YtcldomgdkhenpaaGreat
