/- Lemmas. -/
import Derived.Test.YtcldomgdkhenpaaGreatJ12
import Derived.Test.YtcldomgdkhenpaaGreatJ14
set_option linter.unusedVariables false
set_option maxRecDepth 1000000
set_option maxHeartbeats 40000000
open Go.Proofs.Tryz
open Go.Proofs.Tryz renaming prog → yM
open Go.Value renaming string → yA,slice → yC,int → yE,agg → yF,func → yG
open Go.IntKind renaming i64 → yH,u32 → yI,u64 → yJ
open Go.Obj renaming cells → yL
open Option renaming none → yO,some → yP
open Go.RowKit.Below renaming refl → yk
open Nat renaming le_refl → ye
open Go.RowKit
namespace Go.Proofs.YtcldomgdkhenpaaGreat
section
open Go.Sort Go.Shelf
abbrev Nm:=Key × Nat
def ID (c:Nm):List Value:=[yA c.1,yE yI (c.2:Nat)]
def o8 (l:List Nm):List Value:=l.flatMap ID
theorem aV4 (l m:List Nm):o8 (l++m)=o8 l++o8 m:=by simp [o8]
def OT (a b:Nm):Int:=ord a.1 b.1
theorem TR (a b:Nm):ltOf OT a b=lt a.1 b.1:=by
 unfold ltOf OT;rw [Bool.eq_iff_iff,decide_eq_true_eq];exact tS _ _
theorem a8T:SWO (ltOf OT) where
 irrefl x:=by rw [TR];exact lt_irrefl _
 trans x y z h1 h2:=by rw [TR] at *;exact lt_trans h1 h2
 ntrans x y z h1 h2:=by
  rw [TR] at *;cases h3:lt x.1 z.1 with
  | false=>rfl
  | true=>
   rcases GY x.1 y.1 with e | e | e
   ·rw [e] at h3;rw [h3] at h2;cases h2
   ·rw [e] at h1;cases h1
   have:=lt_trans e h3;rw [this] at h2;cases h2
theorem aRX (a b:Nm) (W:World):Calls yM 246 #[.agg (ID a).toArray,.agg (ID b).toArray] W fun e w'=>e = .returned (yE yH (OT a b))∧∃ q os,w'=grow (W.drewN q) os:=by
 obtain⟨ka,ia⟩:=a;obtain⟨kb,ib⟩:=b;have hA:(W.alloc (yL #[yA ka,yE yI (ia:Nat)] 65)).heap[W.heap.size]?=_:=bM W _;have aA:Kept (W.alloc (yL #[yA ka,yE yI (ia:Nat)] 65)) ((W.alloc (yL #[yA ka,yE yI (ia:Nat)] 65)).alloc (yL #[yA kb,yE yI (ib:Nat)] 65)):=(yk _ _).alloc (ye _) _;have mC:=(aA.block W.heap.size (by simp)).trans hA;have eB:=bM (W.alloc (yL #[yA ka,yE yI (ia:Nat)] 65)) (yL #[yA kb,yE yI (ib:Nat)] 65);rw [World.size_alloc] at eB;have a0:=ch 0 mC;have b0:=ch 0 eB;show Calls yM 246 #[yF #[yA ka,yE yI (ia:Nat)],yF #[yA kb,yE yI (ib:Nat)]] W _;go_enter func246,ntmps246;go_wp2_with fail;refine (UW ka kb _).mono ?_;rintro e w' ⟨rfl,rfl⟩;go_wp2_with fail;go_ret;refine⟨rfl,0,#[yL #[yA ka,yE yI (ia:Nat)] 65,yL #[yA kb,yE yI (ib:Nat)] 65],?_⟩;rw [alloc_eq_grow,alloc_eq_grow,grow_grow];rfl
theorem aRY (B g cap:Nat) (l:List Nm) (w:World) (h:w.ownsRow B 65 2 (yC (yP ⟨g,0,yO⟩) l.length cap) l.length (o8 l)) (hl:l.length≤100000) :
  Calls yM 245 #[yC (yP ⟨g,0,yO⟩) l.length cap,yG (.func 246) #[] #[]] w fun e w'=>e = .returned (.tuple #[])∧∃ s:List Nm,s.Perm l∧s.Pairwise (fun a b=>lt b.1 a.1=false)∧w'.ownsRow B 65 2 (yC (yP ⟨g,0,yO⟩) l.length cap) s.length (o8 s)∧w.grownBy w' (yP g):=by
 unfold o8 at h;have hk:∀ x,(ID x).length=2:=fun x=>rfl
 have h1:=AnyQ.slices_SortFunc (P:=yM) (ρ:=U7) aJA 2 Tryz.isAgg65 Tryz.sizeOf65 ID hk (fun x v hv=>by simp [ID] at hv;rcases hv with rfl | rfl <;> rfl) OT a8T 246 #[] g 0 cap l.toArray w
  (enters_of func246 (by kernel_rfl) rfl) (fun m os dk hs x y=>aRX x y _) (aGD hk h) (h.lt g rfl).2 (by simp;omega)
 have e0:l.toArray.size=l.length:=by simp
 change Calls yM 245 _ _ _ at h1;rw [e0] at h1;refine h1.mono ?_;rintro e w' ⟨rfl,d',n,os,hp,hs,rfl⟩;rw [← e0] at hp hs;obtain⟨p1,p2⟩:=aEU hp hs;have hlen:d'.toList.length=l.length:=p1.length_eq;refine⟨rfl,d'.toList,p1,p2.imp fun {a b} hab=>by rw [TR] at hab;exact hab,?_,aD5 d'⟩;have:=aET (n:=n) (os:=os) (s:=d'.toList) hk hlen h;unfold o8;rw [hlen] at this ⊢;exact this
theorem aTJ (fv:Value) (w:World):Calls yM 376 #[yC yO 0 0,yE yH 0,yE yH 0,fv] w fun e w'=>e = .returned (.tuple #[])∧w=w':=by
 go_enter func376,ntmps376;go_wp2_with fail
 go_loopg [8] 0 (fun kx s8 wr=>s8=yE yH 1∧wr=w)
 case atStart=>exact⟨rfl,rfl⟩
 obtain⟨rfl,rfl⟩:=hrel;go_wp2_with fail;go_end0;exact⟨rfl,rfl⟩
theorem aTK (fv:Value) (lim:Int) (w:World):Calls yM 310 #[yC yO 0 0,yE yH 0,yE yH 0,yE yH lim,fv] w fun e w'=>e = .returned (.tuple #[])∧w=w':=by
 go_enter func310,ntmps310;go_wp2_with fail
 go_loopg [1,2,3,10,11] 0 (fun kx s1 s2 s3 cK jN wr=>s1=yE yH 0∧s2=yE yH 0∧wr=w)
 case atStart=>exact⟨rfl,rfl,rfl⟩
 obtain⟨rfl,rfl,rfl⟩:=hrel;go_wp2_with fail;refine (aTJ fv _).mono ?_;rintro e w' ⟨rfl,rfl⟩;go_wp2_with fail;refine bodyPost_ret (results_none rfl _ _ _) rfl ?_;exact⟨rfl,rfl⟩
theorem aRZ (fv:Value) (w:World):Calls yM 245 #[yC yO 0 0,fv] w fun e w'=>e = .returned (.tuple #[])∧w=w':=by
 have hl:Calls yM 266 #[yE yJ 0] w fun e w'=>e = .returned (yE yH (Lib.bitLen 0:Nat))∧w'=w:=Any.bits_Len (SlLaysF0.n15.bits (P:=yM) (ρ:=U7) { aJA with }) 0 w (by omega) (by omega);go_enter func245,ntmps245;go_wp2_with fail;refine hl.mono ?_;rintro e w' ⟨rfl,rfl⟩;go_wp2_with fail;refine (aTK fv _ _).mono ?_;rintro e w' ⟨rfl,rfl⟩;go_wp2_with fail;go_end0;exact⟨rfl,rfl⟩
theorem aTL (B:Nat) (v:Value) (l:List Nm) (w:World) (h:w.ownsRow B 65 2 v l.length (o8 l)) (hl:l.length≤100000) :
  Calls yM 245 #[v,yG (.func 246) #[] #[]] w fun e w'=>e = .returned (.tuple #[])∧∃ s:List Nm,s.Perm l∧s.Pairwise (fun a b=>lt b.1 a.1=false)∧w'.ownsRow B 65 2 v s.length (o8 s)∧w.grownBy w' v.ownBlock:=by
 rcases h.2 with ⟨rfl,hn⟩ | ⟨g,cap,cur,rfl,_⟩
 ·have hl0:l=[]:=List.eq_nil_of_length_eq_zero hn;subst hl0;refine (aRZ _ w).mono ?_;rintro e w' ⟨rfl,rfl⟩;exact⟨rfl,[],List.Perm.refl _,List.Pairwise.nil,h,⟨rfl,rfl,rfl,ye _,fun _ _ _=>rfl⟩⟩
 exact aRY B g cap l w h hl
end
end Go.Proofs.YtcldomgdkhenpaaGreat
