/- Lemmas. -/
import Derived.Test.YtcldomgdkhenpaaGreatProg
import Derived.Test.YtcldomgdkhenpaaGreatJ01
import Derived.Sort.Lot0
import Derived.Sort.LotA
import Derived.Shelf.SlSortCmp.WholeK
set_option linter.unusedVariables false
set_option maxRecDepth 1000000
set_option maxHeartbeats 40000000
open Go.Proofs.Tryz
open Go.Proofs.Tryz renaming prog → yM
open Option renaming some → yP
open Nat renaming le_refl → ye
namespace Go.Proofs.YtcldomgdkhenpaaGreat
section
open Go.Sort
variable {i j m:Nat}
variable {α:Type} [Inhabited α]
theorem VY (d:Array α) (hi:i<d.size) (hj:j<d.size) (x:Nat):(swp d i j)[x]! = if x=j then d[i]! else if x=i then d[j]! else d[x]!:=by
 by_cases h1:x=j;·subst h1;rw [if_pos rfl];exact swp_right d i x hj
 rw [if_neg h1];by_cases h2:x=i;·subst h2;rw [if_pos rfl];exact swp_left d x j hi h1
 rw [if_neg h2];exact swp_other d i j x h2 h1
def jC (d:Array α) (a b:Nat):Nat→Array α
 | 0=>d
 | n+1=>swp (jC d a b n) (a+n) (b+n)
theorem F2 (d:Array α) (a b n:Nat):(jC d a b n).size=d.size:=by
 induction n with
 | zero=>rfl
 | succ n ih=>rw [jC,size_swp,ih]
theorem VJ (d:Array α) (a b n:Nat) (h1:a+n≤b) (h2:b+n≤d.size) (x:Nat) :
  (jC d a b n)[x]! = if a≤x∧x<a+n then d[x+(b-a)]! else if b≤x∧x<b+n then d[x-(b-a)]! else d[x]!:=by
 induction n generalizing x with
 | zero=>rw [if_neg (by omega),if_neg (by omega)];rfl
 | succ n ih=>
  have g:=ih (by omega) (by omega);rw [jC,VY (jC d a b n) (i:=a+n) (j:=b+n) (by rw [F2];omega) (by rw [F2];omega) x];by_cases c1:x=b+n
  ·rw [if_pos c1,g,if_neg (by omega),if_neg (by omega),if_neg (by omega),if_pos (by omega)];congr 1;omega
  rw [if_neg c1];by_cases c2:x=a+n
  ·rw [if_pos c2,g,if_neg (by omega),if_neg (by omega),if_pos (by omega)];congr 1;omega
  rw [if_neg c2,g];by_cases c3:a≤x∧x<a+n;·rw [if_pos c3,if_pos (by omega)]
  rw [if_neg c3,if_neg (c:=a≤x∧x<a+(n+1)) (by omega)];by_cases c4:b≤x∧x<b+n;·rw [if_pos c4,if_pos (by omega)]
  rw [if_neg c4,if_neg (by omega)]
theorem UT (d:Array α) (a b n lo hi:Nat) (h1:lo≤a) (h2:lo≤b) (h3:a+n≤hi) (h4:b+n≤hi) (h5:hi≤d.size):PermIn lo hi d (jC d a b n):=by
 induction n with
 | zero=>exact permIn_refl _ _ _
 | succ n ih=>exact permIn_trans _ _ _ _ _ (ih (by omega) (by omega)) (swp_permIn _ _ _ _ _ (by omega) (by omega) (by omega) (by omega) (by rw [F2];exact h5))
def jP (d:Array α) (a m b:Nat) (d':Array α):Prop:=
 d'.size=d.size∧∀ x,d'[x]! = if a≤x∧x<a+(b-m) then d[x+(m-a)]! else if a+(b-m)≤x∧x<b then d[x-(b-m)]! else d[x]!
theorem jP.more {d d':Array α} (hi:j<i) (CD:i≤m) (hj:m+j≤d.size) (h:jP (jC d (m-i) m j) (m-(i-j)) m (m+j) d'):jP d (m-i) m (m+j) d':=by
 refine⟨by rw [h.1,F2],fun x=>?_⟩;have g:=VJ d (m-i) m j (by omega) hj;rw [h.2 x];by_cases c1:m-(i-j)≤x∧x<m-(i-j)+(m+j-m)
 ·rw [if_pos c1,g,if_neg (by omega),if_pos (by omega),if_neg (by omega),if_pos (by omega)];congr 1;omega
 rw [if_neg c1];by_cases c2:m-(i-j)+(m+j-m)≤x∧x<m+j;·rw [if_pos c2,g,if_neg (by omega),if_neg (by omega),if_neg (by omega),if_pos (by omega)]
 rw [if_neg c2,g];by_cases c3:m-i≤x∧x<m-i+j;·rw [if_pos c3,if_pos (by omega)]
 rw [if_neg c3,if_neg (by omega),if_neg (by omega),if_neg (by omega)]
theorem jP.less {d d':Array α} (hi:i<j) (CD:i≤m) (hj:m+j≤d.size) (h:jP (jC d (m-i) (m+j-i) i) (m-i) m (m+(j-i)) d'):jP d (m-i) m (m+j) d':=by
 refine⟨by rw [h.1,F2],fun x=>?_⟩;have g:=VJ d (m-i) (m+j-i) i (by omega) (by omega);rw [h.2 x];by_cases c1:m-i≤x∧x<m-i+(m+(j-i)-m)
 ·rw [if_pos c1,g];by_cases c3:x+(m-(m-i))<m+j-i;·rw [if_neg (by omega),if_neg (by omega),if_pos (by omega)]
  omega
 rw [if_neg c1];by_cases c2:m-i+(m+(j-i)-m)≤x∧x<m+(j-i)
 ·rw [if_pos c2,g,if_pos (by omega)];by_cases c4:x<m-i+(m+j-m);·rw [if_pos (by omega)];congr 1;omega
  omega
 rw [if_neg c2,g,if_neg (by omega)];by_cases c3:m+j-i≤x∧x<m+j-i+i
 ·rw [if_pos c3,if_neg (by omega),if_pos (by omega)];congr 1;omega
 rw [if_neg c3,if_neg (by omega),if_neg (by omega)]
theorem jP.last {d:Array α} (CD:i≤m) (hj:m+i≤d.size):jP d (m-i) m (m+i) (jC d (m-i) m i):=by
 refine⟨F2 _ _ _ _,fun x=>?_⟩;rw [VJ d (m-i) m i (by omega) hj];by_cases c1:m-i≤x∧x<m-i+i;·rw [if_pos c1,if_pos (by omega)]
 rw [if_neg c1,if_neg (c:=m-i≤x∧x<m-i+(m+i-m)) (by omega)];by_cases c2:m≤x∧x<m+i;·rw [if_pos c2,if_pos (by omega)];congr 1;omega
 rw [if_neg c2,if_neg (by omega)]
theorem jP.none {d:Array α} {a b:Nat} (h:a=m∨m=b) (h1:a≤m) (h2:m≤b):jP d a m b d:=by
 refine⟨rfl,fun x=>?_⟩;rcases h with rfl | rfl
 ·by_cases c:a≤x∧x<a+(b-a);·rw [if_pos c];congr 1;omega
  rw [if_neg c,if_neg (by omega)]
 rw [if_neg (by omega)];by_cases c:a+(m-m)≤x∧x<m;·rw [if_pos c];congr 1;omega
 rw [if_neg c]
def l9 (d:Array α) (a:Nat):Nat→Array α
 | 0=>d
 | n+1=>swp (l9 d a n) (a+n) (a+n+1)
theorem VZ (d:Array α) (a n:Nat):(l9 d a n).size=d.size:=by
 induction n with
 | zero=>rfl
 | succ n ih=>rw [l9,size_swp,ih]
theorem a0X (d:Array α) (a n:Nat) (h:a+n<d.size) (x:Nat):(l9 d a n)[x]! = if a≤x∧x<a+n then d[x+1]! else if x=a+n then d[a]! else d[x]!:=by
 induction n generalizing x with
 | zero=>
  rw [if_neg (by omega),l9];by_cases c:x=a+0;·rw [if_pos c,c];rfl
  rw [if_neg c]
 | succ n ih=>
  have g:=ih (by omega);rw [l9,VY _ (by rw [VZ];omega) (by rw [VZ];omega)];by_cases c1:x=a+n+1;·rw [if_pos c1,g,if_neg (by omega),if_pos rfl,if_neg (by omega),if_pos (by omega)]
  rw [if_neg c1];by_cases c2:x=a+n;·rw [if_pos c2,g,if_neg (by omega),if_neg (by omega),if_pos (by omega),c2]
  rw [if_neg c2,g];by_cases c3:a≤x∧x<a+n;·rw [if_pos c3,if_pos (by omega)]
  rw [if_neg c3,if_neg c2,if_neg (by omega),if_neg (by omega)]
theorem aSO (d:Array α) (a n lo hi:Nat) (h1:lo≤a) (h2:a+n<hi) (h3:hi≤d.size):PermIn lo hi d (l9 d a n):=by
 induction n with
 | zero=>exact permIn_refl _ _ _
 | succ n ih=>exact permIn_trans _ _ _ _ _ (ih (by omega)) (swp_permIn _ _ _ _ _ (by omega) (by omega) (by omega) (by omega) (by rw [VZ];exact h3))
def cQ (d:Array α) (m:Nat):Nat→Array α
 | 0=>d
 | n+1=>swp (cQ d m n) (m-n) (m-n-1)
theorem U4 (d:Array α) (a n:Nat):(cQ d a n).size=d.size:=by
 induction n with
 | zero=>rfl
 | succ n ih=>rw [cQ,size_swp,ih]
theorem JW (d:Array α) (m n:Nat) (h:n≤m) (hm:m<d.size) (x:Nat):(cQ d m n)[x]! = if m-n<x∧x≤m then d[x-1]! else if x=m-n then d[m]! else d[x]!:=by
 induction n generalizing x with
 | zero=>
  rw [if_neg (by omega),cQ];by_cases c:x=m-0;·rw [if_pos c,c];rfl
  rw [if_neg c]
 | succ n ih=>
  have g:=ih (by omega);rw [cQ,VY _ (by rw [U4];omega) (by rw [U4];omega)];by_cases c1:x=m-n-1;·rw [if_pos c1,g,if_neg (by omega),if_pos rfl,if_neg (by omega),if_pos (by omega)]
  rw [if_neg c1];by_cases c2:x=m-n;·rw [if_pos c2,g,if_neg (by omega),if_neg (by omega),if_pos (by omega),c2]
  rw [if_neg c2,g];by_cases c3:m-n<x∧x≤m;·rw [if_pos c3,if_pos (by omega)]
  rw [if_neg c3,if_neg c2,if_neg (by omega),if_neg (by omega)]
theorem JN (d:Array α) (m n lo hi:Nat) (h0:n≤m) (h1:lo≤m-n) (h2:m<hi) (h3:hi≤d.size):PermIn lo hi d (cQ d m n):=by
 induction n with
 | zero=>exact permIn_refl _ _ _
 | succ n ih=>exact permIn_trans _ _ _ _ _ (ih (by omega) (by omega)) (swp_permIn _ _ _ _ _ (by omega) (by omega) (by omega) (by omega) (by rw [U4];exact h3))
section
variable {lt:α→α→Bool} (S:SWO lt)
include S
theorem aUZ (d:Array α) (a b i:Nat) (hb:b≤d.size) (h1:a+1≤i) (h2:i≤b) (hs:SortedIn lt (a+1) b d)
  (f1:i=a+1∨lt d[i-1]! d[a]! = true) (f2:i=b∨lt d[i]! d[a]! = false):SortedIn lt a b (l9 d a (i-1-a)):=by
 intro x y hx zJ hy;have g:=a0X d a (i-1-a) (by omega);have asym:∀ p q,lt p q=true→lt q p=false:=fun p q h=>by
  rw [Bool.eq_false_iff];intro h';have:=S.trans _ _ _ h h';rw [S.irrefl] at this;cases this
 have low:∀ z,a+1≤z→z<i→lt d[a]! d[z]! = false:=fun z h3 h4=>by
  rcases f1 with f1 | f1
  ·omega
  by_cases e:z=i-1;·subst e;exact asym _ _ f1
  exact S.ntrans _ _ _ (asym _ _ f1) (hs z (i-1) h3 (by omega) (by omega))
 have high:∀ z,i≤z→z<b→lt d[z]! d[a]! = false:=fun z h3 h4=>by
  rcases f2 with f2 | f2
  ·omega
  by_cases e:z=i;·subst e;exact f2
  exact S.ntrans _ _ _ (hs i z (by omega) (by omega) h4) f2
 rw [g,g];by_cases c1:x<i-1
 ·rw [if_pos (c:=a≤x∧x<a+(i-1-a)) (by omega)];by_cases c2:y<i-1;·rw [if_pos (by omega)];exact hs _ _ (by omega) (by omega) (by omega)
  rw [if_neg (by omega)];by_cases c3:y=i-1;·rw [if_pos (by omega)];exact low _ (by omega) (by omega)
  rw [if_neg (by omega)];exact hs _ _ (by omega) (by omega) (by omega)
 rw [if_neg (c:=a≤x∧x<a+(i-1-a)) (by omega),if_neg (c:=a≤y∧y<a+(i-1-a)) (by omega),if_neg (c:=y=a+(i-1-a)) (by omega)];by_cases c3:x=i-1;·rw [if_pos (by omega)];exact high _ (by omega) (by omega)
 rw [if_neg (by omega)];exact hs _ _ (by omega) (by omega) (by omega)
theorem JO (d:Array α) (a m i:Nat) (hb:m<d.size) (h1:a≤i) (h2:i≤m) (hs:SortedIn lt a m d)
  (f1:i=a∨lt d[m]! d[i-1]! = false) (f2:i=m∨lt d[m]! d[i]! = true):SortedIn lt a (m+1) (cQ d m (m-i)):=by
 intro x y hx zJ hy;have g:=JW d m (m-i) (by omega) hb;have asym:∀ p q,lt p q=true→lt q p=false:=fun p q h=>by
  rw [Bool.eq_false_iff];intro h';have:=S.trans _ _ _ h h';rw [S.irrefl] at this;cases this
 have low:∀ z,a≤z→z<i→lt d[m]! d[z]! = false:=fun z h3 h4=>by
  rcases f1 with f1 | f1
  ·omega
  by_cases e:z=i-1;·subst e;exact f1
  exact S.ntrans _ _ _ f1 (hs z (i-1) h3 (by omega) (by omega))
 have high:∀ z,i≤z→z<m→lt d[z]! d[m]! = false:=fun z h3 h4=>by
  rcases f2 with f2 | f2
  ·omega
  by_cases e:z=i;·subst e;exact asym _ _ f2
  exact S.ntrans _ _ _ (hs i z (by omega) (by omega) h4) (asym _ _ f2)
 rw [g,g];by_cases c1:y<i;·rw [if_neg (by omega),if_neg (by omega),if_neg (by omega),if_neg (by omega)];exact hs _ _ (by omega) (by omega) (by omega)
 by_cases c2:y=i
 ·rw [if_neg (c:=m-(m-i)<y∧y≤m) (by omega),if_pos (c:=y=m-(m-i)) (by omega),if_neg (by omega),if_neg (by omega)];exact low _ (by omega) (by omega)
 rw [if_pos (c:=m-(m-i)<y∧y≤m) (by omega)];by_cases c3:x<i
 ·rw [if_neg (by omega),if_neg (by omega)];by_cases e:x=y-1;·omega
  exact hs _ _ (by omega) (by omega) (by omega)
 by_cases c4:x=i;·rw [if_neg (by omega),if_pos (by omega)];exact high _ (by omega) (by omega)
 rw [if_pos (by omega)];exact hs _ _ (by omega) (by omega) (by omega)
theorem aRD (d d1:Array α) (a m b s:Nat) (ham:a<m) (vV:m<b) (h1:SortedIn lt a m d) (h2:SortedIn lt m b d)
  (hs0:a≤s) (hsm:s≤m) (hs1:s≤(a+b) / 2) (he:(a+b) / 2+m-s≤b) (hem:m≤(a+b) / 2+m-s)
  (f1:s=a∨(a+b) / 2+m-s=b∨lt d[(a+b) / 2+m-s]! d[s-1]! = false)
  (f2:s=m∨(a+b) / 2+m-s=m∨lt d[(a+b) / 2+m-s-1]! d[s]! = true)
  (hr:jP d s m ((a+b) / 2+m-s) d1) :
  SortedIn lt a s d1∧SortedIn lt s ((a+b) / 2) d1∧SortedIn lt ((a+b) / 2) ((a+b) / 2+m-s) d1∧SortedIn lt ((a+b) / 2+m-s) b d1∧
   (∀ x y,a≤x→x<(a+b) / 2→(a+b) / 2≤y→y<b→lt d1[y]! d1[x]! = false):=by
 have asym:∀ p q,lt p q=true→lt q p=false:=fun p q h=>by
  rw [Bool.eq_false_iff];intro h';have:=S.trans _ _ _ h h';rw [S.irrefl] at this;cases this
 generalize aKX:(a+b) / 2=mid at *;generalize hee:mid+m-s=e at *;have L4:∀ x y,a≤x→x≤y→y<m→lt d[y]! d[x]! = false:=fun x y p q r=>by
  by_cases e:x=y;·subst e;exact S.irrefl _
  exact h1 x y p (by omega) r
 have YZ:∀ x y,m≤x→x≤y→y<b→lt d[y]! d[x]! = false:=fun x y p q r=>by
  by_cases e:x=y;·subst e;exact S.irrefl _
  exact h2 x y p (by omega) r
 have gl:∀ x,x<s→d1[x]! = d[x]!:=fun x hx=>by rw [hr.2,if_neg (by omega),if_neg (by omega)]
 have gm:∀ x,s≤x→x<mid→d1[x]! = d[x+(m-s)]!:=fun x p q=>by rw [hr.2,if_pos (by omega)]
 have gn:∀ x,mid≤x→x<e→d1[x]! = d[x-(e-m)]!:=fun x p q=>by rw [hr.2,if_neg (by omega),if_pos (by omega)]
 have gr:∀ x,e≤x→d1[x]! = d[x]!:=fun x hx=>by rw [hr.2,if_neg (by omega),if_neg (by omega)]
 refine⟨fun x y p q r=>?_,fun x y p q r=>?_,fun x y p q r=>?_,fun x y p q r=>?_,fun x y p q p' q'=>?_⟩;·rw [gl x (by omega),gl y (by omega)];exact h1 x y p q (by omega)
 ·rw [gm x (by omega) (by omega),gm y (by omega) (by omega)];exact h2 _ _ (by omega) (by omega) (by omega)
 ·rw [gn x (by omega) (by omega),gn y (by omega) (by omega)];exact h1 _ _ (by omega) (by omega) (by omega)
 ·rw [gr x (by omega),gr y (by omega)];exact h2 _ _ (by omega) (by omega) (by omega)
 by_cases c1:x<s
 ·rw [gl x c1];by_cases c2:y<e;·rw [gn y p' c2];exact L4 _ _ p (by omega) (by omega)
  rw [gr y (by omega)];rcases f1 with f1 | f1 | f1
  ·omega
  ·omega
  exact S.ntrans _ _ _ (YZ e y (by omega) (by omega) q') (S.ntrans _ _ _ f1 (L4 x (s-1) p (by omega) (by omega)))
 rw [gm x (by omega) q];by_cases c2:y<e
 ·rw [gn y p' c2];rcases f2 with f2 | f2 | f2
  ·omega
  ·omega
  exact S.ntrans _ _ _ (L4 s _ hs0 (by omega) (by omega)) (S.ntrans _ _ _ (asym _ _ f2) (YZ _ (e-1) (by omega) (by omega) (by omega)))
 rw [gr y (by omega)];exact YZ _ _ (by omega) (by omega) q'
omit S in
theorem aSP (d1 d2 d3:Array α) (a mid b:Nat) (hb:b≤d1.size) (h1:a≤mid) (h2:mid≤b)
  (hc:∀ x y,a≤x→x<mid→mid≤y→y<b→lt d1[y]! d1[x]! = false)
  (p2:PermIn a mid d1 d2) (s2:SortedIn lt a mid d2) (p3:PermIn mid b d2 d3) (s3:SortedIn lt mid b d3):PermIn a b d1 d3∧SortedIn lt a b d3:=by
 have hb2:b≤d2.size:=by rw [p2.1];exact hb
 refine⟨permIn_trans _ _ _ _ _ (permIn_mono _ _ _ _ _ _ (ye _) h2 hb p2) (permIn_mono _ _ _ _ _ _ h1 (ye _) hb2 p3),?_⟩;have hc2:∀ x y,a≤x→x<mid→mid≤y→y<b→lt d2[y]! d2[x]! = false:=fun x y p q p' q'=>by
  rw [p2.2.1 y (by omega)];exact permIn_all d1 d2 a mid (fun v=>lt d1[y]! v=false) (by omega) p2 (fun i hi hi'=>hc i y hi hi' p' q') x p q
 have hc3:∀ x y,a≤x→x<mid→mid≤y→y<b→lt d3[y]! d3[x]! = false:=fun x y p q p' q'=>by
  rw [p3.2.1 x (by omega)];exact permIn_all d2 d3 mid b (fun v=>lt v d2[x]! = false) hb2 p3 (fun i hi hi'=>hc2 x i p q hi hi') y p' q'
 intro x y p q r;by_cases c1:y<mid;·rw [p3.2.1 x (by omega),p3.2.1 y (by omega)];exact s2 x y p q c1
 by_cases c2:x<mid;·exact hc3 x y p c2 (by omega) r
 exact s3 x y (by omega) q r
end
end
section
open Go.Shelf Go.Proofs
def F4:Go.Shelf.Ren:=⟨fun | 6=>188 | 15=>266 | 14=>265 | 28=>335 | 29=>336 | 20=>327 | 21=>328 | 22=>329 | 23=>330 | 24=>331 | 25=>332 | 26=>333 | 27=>334 | 46=>390 | 47=>391 | 48=>392 | 49=>393 | 50=>394 | 57=>426 | n=>n,fun | 22=>36 | 24=>109 | 25=>285 | 3=>3 | 39=>360 | 0=>0 | 53=>35 | 55=>22 | 4=>4 | 46=>423 | 45=>422 | 50=>101 | 5=>5 | 9=>9 | 66=>475 | 70=>479 | 76=>502 | 77=>503 | n=>n,fun | n=>n⟩
theorem KY:Go.Proofs.SlLaysF0.n6 yM F4:={
 mixed:=by kernel_rfl
 f6:=⟨f188.name,by decide,func188.trans (congrArg yP (by kernel_rfl))⟩
 f14:=⟨f265.name,by decide,func265.trans (congrArg yP (by kernel_rfl))⟩
 f15:=func266.trans (congrArg yP (by kernel_rfl))
 f20:=⟨f327.name,by decide,func327.trans (congrArg yP (by kernel_rfl))⟩
 f21:=⟨f328.name,by decide,func328.trans (congrArg yP (by kernel_rfl))⟩
 f22:=⟨f329.name,by decide,func329.trans (congrArg yP (by kernel_rfl))⟩
 f23:=⟨f330.name,by decide,func330.trans (congrArg yP (by kernel_rfl))⟩
 f24:=⟨f331.name,by decide,func331.trans (congrArg yP (by kernel_rfl))⟩
 f25:=⟨f332.name,by decide,func332.trans (congrArg yP (by kernel_rfl))⟩
 f26:=⟨f333.name,by decide,func333.trans (congrArg yP (by kernel_rfl))⟩
 f27:=⟨f334.name,by decide,func334.trans (congrArg yP (by kernel_rfl))⟩
 f28:=func335.trans (congrArg yP (by kernel_rfl))
 f29:=func336.trans (congrArg yP (by kernel_rfl))
 f46:=⟨f390.name,by decide,func390.trans (congrArg yP (by kernel_rfl))⟩
 f47:=func391.trans (congrArg yP (by kernel_rfl))
 f48:=func392.trans (congrArg yP (by kernel_rfl))
 f49:=⟨f393.name,by decide,func393.trans (congrArg yP (by kernel_rfl))⟩
 f50:=⟨f394.name,by decide,func394.trans (congrArg yP (by kernel_rfl))⟩
 f57:=⟨f426.name,by decide,func426.trans (congrArg yP (by kernel_rfl))⟩
 t0:=underlying0
 a0:=Tryz.isAgg0
 z0:=Tryz.sizeOf0
 v0:=Tryz.zeroValue0
 t3:=underlying3
 a3:=Tryz.isAgg3
 z3:=Tryz.sizeOf3
 v3:=Tryz.zeroValue3
 t4:=underlying4
 a4:=Tryz.isAgg4
 z4:=Tryz.sizeOf4
 v4:=Tryz.zeroValue4
 t5:=underlying5
 a5:=Tryz.isAgg5
 z5:=Tryz.sizeOf5
 v5:=Tryz.zeroValue5
 t9:=underlying9
 a9:=Tryz.isAgg9
 z9:=Tryz.sizeOf9
 v9:=Tryz.zeroValue9
 t22:=underlying36
 a22:=Tryz.isAgg36
 z22:=Tryz.sizeOf36
 v22:=Tryz.zeroValue36
 t25:=underlying285
 a25:=Tryz.isAgg285
 z25:=Tryz.sizeOf285
 v25:=Tryz.zeroValue285
 t39:=underlying360
 a39:=Tryz.isAgg360
 z39:=Tryz.sizeOf360
 v39:=Tryz.zeroValue360
 t45:=underlying422
 a45:=Tryz.isAgg422
 z45:=Tryz.sizeOf422
 v45:=Tryz.zeroValue422
 t46:=underlying423
 a46:=Tryz.isAgg423
 z46:=Tryz.sizeOf423
 v46:=Tryz.zeroValue423
 t50:=underlying101
 a50:=Tryz.isAgg101
 z50:=Tryz.sizeOf101
 v50:=Tryz.zeroValue101
 t53:=underlying35
 a53:=Tryz.isAgg35
 z53:=Tryz.sizeOf35
 v53:=Tryz.zeroValue35
 t55:=underlying22
 a55:=Tryz.isAgg22
 z55:=Tryz.sizeOf22
 v55:=Tryz.zeroValue22
 t66:=underlying475
 a66:=Tryz.isAgg475
 z66:=Tryz.sizeOf475
 v66:=Tryz.zeroValue475
 t70:=underlying479
 a70:=Tryz.isAgg479
 z70:=Tryz.sizeOf479
 v70:=Tryz.zeroValue479
 t76:=underlying502
 a76:=Tryz.isAgg502
 z76:=Tryz.sizeOf502
 v76:=Tryz.zeroValue502
 t77:=underlying503
 a77:=Tryz.isAgg503
 z77:=Tryz.sizeOf503
 v77:=Tryz.zeroValue503 }
def U7:Go.Shelf.Ren:=⟨fun | 6=>245 | 15=>266 | 14=>310 | 28=>335 | 29=>336 | 20=>376 | 21=>377 | 22=>378 | 23=>379 | 24=>380 | 25=>381 | 26=>382 | 27=>383 | 46=>419 | 47=>391 | 48=>392 | 49=>420 | 50=>421 | 57=>437 | n=>n,fun | 22=>39 | 24=>65 | 25=>340 | 3=>3 | 39=>360 | 0=>0 | 53=>35 | 55=>22 | 4=>4 | 46=>423 | 45=>422 | 50=>101 | 5=>5 | 9=>9 | 66=>475 | 70=>479 | 76=>502 | 77=>503 | n=>n,fun | n=>n⟩
theorem aJA:Go.Proofs.SlLaysF0.n6 yM U7:={
 mixed:=by kernel_rfl
 f6:=⟨f245.name,by decide,func245.trans (congrArg yP (by kernel_rfl))⟩
 f14:=⟨f310.name,by decide,func310.trans (congrArg yP (by kernel_rfl))⟩
 f15:=func266.trans (congrArg yP (by kernel_rfl))
 f20:=⟨f376.name,by decide,func376.trans (congrArg yP (by kernel_rfl))⟩
 f21:=⟨f377.name,by decide,func377.trans (congrArg yP (by kernel_rfl))⟩
 f22:=⟨f378.name,by decide,func378.trans (congrArg yP (by kernel_rfl))⟩
 f23:=⟨f379.name,by decide,func379.trans (congrArg yP (by kernel_rfl))⟩
 f24:=⟨f380.name,by decide,func380.trans (congrArg yP (by kernel_rfl))⟩
 f25:=⟨f381.name,by decide,func381.trans (congrArg yP (by kernel_rfl))⟩
 f26:=⟨f382.name,by decide,func382.trans (congrArg yP (by kernel_rfl))⟩
 f27:=⟨f383.name,by decide,func383.trans (congrArg yP (by kernel_rfl))⟩
 f28:=func335.trans (congrArg yP (by kernel_rfl))
 f29:=func336.trans (congrArg yP (by kernel_rfl))
 f46:=⟨f419.name,by decide,func419.trans (congrArg yP (by kernel_rfl))⟩
 f47:=func391.trans (congrArg yP (by kernel_rfl))
 f48:=func392.trans (congrArg yP (by kernel_rfl))
 f49:=⟨f420.name,by decide,func420.trans (congrArg yP (by kernel_rfl))⟩
 f50:=⟨f421.name,by decide,func421.trans (congrArg yP (by kernel_rfl))⟩
 f57:=⟨f437.name,by decide,func437.trans (congrArg yP (by kernel_rfl))⟩
 t0:=underlying0
 a0:=Tryz.isAgg0
 z0:=Tryz.sizeOf0
 v0:=Tryz.zeroValue0
 t3:=underlying3
 a3:=Tryz.isAgg3
 z3:=Tryz.sizeOf3
 v3:=Tryz.zeroValue3
 t4:=underlying4
 a4:=Tryz.isAgg4
 z4:=Tryz.sizeOf4
 v4:=Tryz.zeroValue4
 t5:=underlying5
 a5:=Tryz.isAgg5
 z5:=Tryz.sizeOf5
 v5:=Tryz.zeroValue5
 t9:=underlying9
 a9:=Tryz.isAgg9
 z9:=Tryz.sizeOf9
 v9:=Tryz.zeroValue9
 t22:=underlying39
 a22:=Tryz.isAgg39
 z22:=Tryz.sizeOf39
 v22:=Tryz.zeroValue39
 t25:=underlying340
 a25:=Tryz.isAgg340
 z25:=Tryz.sizeOf340
 v25:=Tryz.zeroValue340
 t39:=underlying360
 a39:=Tryz.isAgg360
 z39:=Tryz.sizeOf360
 v39:=Tryz.zeroValue360
 t45:=underlying422
 a45:=Tryz.isAgg422
 z45:=Tryz.sizeOf422
 v45:=Tryz.zeroValue422
 t46:=underlying423
 a46:=Tryz.isAgg423
 z46:=Tryz.sizeOf423
 v46:=Tryz.zeroValue423
 t50:=underlying101
 a50:=Tryz.isAgg101
 z50:=Tryz.sizeOf101
 v50:=Tryz.zeroValue101
 t53:=underlying35
 a53:=Tryz.isAgg35
 z53:=Tryz.sizeOf35
 v53:=Tryz.zeroValue35
 t55:=underlying22
 a55:=Tryz.isAgg22
 z55:=Tryz.sizeOf22
 v55:=Tryz.zeroValue22
 t66:=underlying475
 a66:=Tryz.isAgg475
 z66:=Tryz.sizeOf475
 v66:=Tryz.zeroValue475
 t70:=underlying479
 a70:=Tryz.isAgg479
 z70:=Tryz.sizeOf479
 v70:=Tryz.zeroValue479
 t76:=underlying502
 a76:=Tryz.isAgg502
 z76:=Tryz.sizeOf502
 v76:=Tryz.zeroValue502
 t77:=underlying503
 a77:=Tryz.isAgg503
 z77:=Tryz.sizeOf503
 v77:=Tryz.zeroValue503 }
end
end Go.Proofs.YtcldomgdkhenpaaGreat
