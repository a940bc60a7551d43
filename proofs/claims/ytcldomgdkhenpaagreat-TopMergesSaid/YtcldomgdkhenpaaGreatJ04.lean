/- Lemmas. -/
import Derived.Test.YtcldomgdkhenpaaGreatJ01
import Derived.Lib.Strings
set_option linter.unusedVariables false
set_option maxRecDepth 1000000
set_option maxHeartbeats 40000000
open Go.Proofs.Tryz
open Go.Proofs.Tryz renaming prog → yM
open Go.Value renaming string → yA,bool → yD,int → yE
open Go.IntKind renaming i64 → yH
open ByteArray renaming empty → yj
open Go.RowKit
namespace Go.Proofs.YtcldomgdkhenpaaGreat.Twig
section
variable {x y:Int}
theorem aHA (w:World) (n:Nat):∃ m,w.drewN n=w.drewN m:=⟨n,rfl⟩
theorem aHB (w:World) (n q:Nat):∃ m,(w.drewN n).drewN q=w.drewN m:=⟨n+q,World.drewN_drewN w n q⟩
theorem aEM (a b:ByteArray) (w:World) (ha:a.size≤1000) (hb:b.size≤1000) :
  Calls yM 291 #[yA a,yA b] w fun e w'=>e = .returned (yE yH (com a.data.toList b.data.toList))∧∃ n,w'=w.drewN n:=by
 go_enter func291,ntmps291;by_cases hab:b.size<a.size
 ·go_wp2
  go_loopw [13] (fun i wr=>∃ k n:Nat,i=yE yH k∧k≤b.size∧k≤com a.data.toList b.data.toList∧wr=w.drewN n) (fun i _=>b.size-(intOf i).toNat)
  case atStart=>exact⟨0,0,rfl,by omega,by omega,rfl⟩
  obtain⟨k,n,rfl,hk,pK,rfl⟩:=hrel;by_cases hlt:k<b.size
  ·have pL:k<a.size:=by omega
   go_wp2;go_quiet (fail);go_wp2
   ·go_ret;exact⟨gO (by rw [aG9 a b k pL hlt pK (by assumption)]),aHB _ _ _⟩
   have g:=aI0 a b k pL hlt pK (by assumption)
   go_roundw
   case rel=>exact⟨k+1,_,by go_num,by omega,g,rfl⟩
   case measure=>simp [intOf];omega
  go_wp2;go_ret;exact⟨gO (by rw [aP8 a b b.size (by omega) (by omega)]),aHA _ _⟩
 go_wp2
 go_loopw [13] (fun i wr=>∃ k n:Nat,i=yE yH k∧k≤a.size∧k≤com a.data.toList b.data.toList∧wr=w.drewN n) (fun i _=>a.size-(intOf i).toNat)
 case atStart=>exact⟨0,0,rfl,by omega,by omega,rfl⟩
 obtain⟨k,n,rfl,hk,pK,rfl⟩:=hrel;by_cases pL:k<a.size
 ·have hlt:k<b.size:=by omega
  go_wp2;go_quiet (fail);go_wp2
  ·go_ret;exact⟨gO (by rw [aG9 a b k pL hlt pK (by assumption)]),aHB _ _ _⟩
  have g:=aI0 a b k pL hlt pK (by assumption)
  go_roundw
  case rel=>exact⟨k+1,_,by go_num,by omega,g,rfl⟩
  case measure=>simp [intOf];omega
 go_wp2;go_ret;exact⟨gO (by rw [aQL a b a.size (by omega) (by omega)]),aHA _ _⟩
def lt (a b:ByteArray):Bool:=Op.bytesLess a.data.toList b.data.toList
def pM (a b:ByteArray):Bool:=com a.data.toList b.data.toList == b.data.toList.length
theorem aP9 (a b:ByteArray) (w:World) :
  Calls yM 384 #[yA a,yA b] w fun e w'=>e = .returned (yD (pM a b))∧w'=w:=by
 have e:pM a b=(decide (b.size≤a.size) && ((a.extract 0 b.size).toList == b.toList)):=by
  unfold pM;rw [aFY,Lib.hasPrefix_raw];rfl
 rw [e];go_enter func384,ntmps384;go_wp2
 ·go_ret;have h:b.size≤a.size:=by assumption
  refine⟨C3 ?_,rfl⟩;simp [h]
 go_ret;have h:¬ b.size≤a.size:=by assumption
 refine⟨C3 ?_,rfl⟩;simp [h]
theorem aEN (a b:ByteArray) (w:World) :
  Calls yM 313 #[yA a,yA b] w fun e w'=>e = .returned (yD (pM a b))∧w'=w:=by
 go_enter func313,ntmps313;go_wp2_with (go_at_call 384;refine (aP9 a b _).mono ?_;rintro e w' ⟨rfl,rfl⟩);go_ret;exact⟨rfl,rfl⟩
theorem aHC (a b:ByteArray) (w:World) (h:pM a b=true) :
  Calls yM 249 #[yA a,yA b] w fun e w'=>e = .returned (.tuple #[yA (a.extract b.size a.size),yD true])∧w'=w:=by
 have hle:b.size≤a.size:=by
  unfold pM at h;have h1:=FT a.data.toList b.data.toList;simp only [beq_iff_eq] at h;rw [h,lI,lI] at h1;exact h1
 go_enter func249,ntmps249;go_wp2_with fail;refine (aEN a b _).mono ?_;rintro e w' ⟨rfl,rfl⟩;rw [h];go_wp2;go_ret2;exact⟨rfl,rfl⟩
theorem aIC (a b:ByteArray) (w:World) (h:pM a b=false) :
  Calls yM 249 #[yA a,yA b] w fun e w'=>e = .returned (.tuple #[yA yj,yD false])∧w'=w:=by
 go_enter func249,ntmps249;go_wp2_with fail;refine (aEN a b _).mono ?_;rintro e w' ⟨rfl,rfl⟩;rw [h];go_wp2;go_ret2;exact⟨rfl,rfl⟩
end
end Go.Proofs.YtcldomgdkhenpaaGreat.Twig
