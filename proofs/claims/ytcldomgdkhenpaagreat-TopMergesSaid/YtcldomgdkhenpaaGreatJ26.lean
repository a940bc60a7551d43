/- Lemmas. -/
import Derived.Test.YtcldomgdkhenpaaGreatJ11
import Derived.Test.YtcldomgdkhenpaaGreatJ23
import Derived.Shelf.SlMaps.Clone
set_option linter.unusedVariables false
set_option maxRecDepth 1000000
set_option maxHeartbeats 40000000
open Go.Proofs.Tryz
open Go.Proofs.Tryz renaming prog → yM
open Go.Value renaming slice → yC,int → yE,func → yG
open Go.IntKind renaming i64 → yH,u32 → yI,u64 → yJ
open Option renaming none → yO,some → yP
open Go.Lib renaming hid → yN
open And renaming intro → yd
open Go.RowKit.Below renaming drew → ym,refl → yk,trans → yn
open Nat renaming le_refl → ye,le_trans → yf
open Go.RowKit
namespace Go.Proofs.YtcldomgdkhenpaaGreat
section
theorem aJD (n:Nat) (hn:n≤1000000) (w:World):Calls yM 266 #[yE yJ n] w fun e w'=>∃ k:Nat,e = .returned (yE yH k)∧k≤1000∧w'=w:=by
 have h:=Go.Proofs.Any.bits_Len (SlLaysF0.n15.bits (P:=yM) (ρ:=F4) { KY with }) (n:Int) w (by omega) (by omega);refine h.mono ?_;rintro e w' ⟨rfl,rfl⟩;refine⟨_,rfl,?_,rfl⟩;rw [Int.toNat_natCast,bitLen_eq _ (by omega)];have:=(Go.Sort.bitsLen_le_iff n 20).2 (by omega);omega
theorem a4D (b o n cap:Nat) (w:World) (h:UR b o n w) (hn:n≤1000000):Calls yM 282 #[yC (yP ⟨b,o,yO⟩) n cap] w fun e w'=>e = .returned (.tuple #[])∧Us b o n w w':=by
 have HU:=yN h;have hw:yJ.wrap (n:Int)=(n:Int):=by simp [IntKind.wrap,IntKind.bits,IntKind.signed];omega
 go_enter func282,ntmps282;go_wp2_with fail;refine (aJD n hn w).mono ?_;rintro e w' ⟨k,rfl,hk,rfl⟩;go_wp2_with fail;refine (a6L b o n cap hn n 0 n k w' (by omega) HU.o (by omega) (ye _) hk).mono ?_;rintro e w2 ⟨rfl,hu⟩;have HX:=yN hu;go_wp2_with fail;go_end0;exact⟨rfl,HX.o⟩
theorem a4E (w:World):Calls yM 397 #[yC yO 0 0,yE yH 0,yE yH 0] w fun e w'=>e = .returned (.tuple #[])∧w'=w:=by
 go_enter func397,ntmps397;go_wp2_with fail
 go_loopg [6] 1 (fun kx s6 wr=>s6=yE yH 1∧wr=w)
 case atStart=>exact⟨rfl,rfl⟩
 obtain⟨rfl,rfl⟩:=hrel;go_wp2_with fail;go_end0;exact⟨rfl,rfl⟩
theorem a4F (k:Nat) (hk:k≤1000) (w:World):Calls yM 344 #[yC yO 0 0,yE yH 0,yE yH 0,yE yH k] w fun e w'=>e = .returned (.tuple #[])∧w'=w:=by
 go_enter func344,ntmps344;go_wp2_with fail
 go_loopg [1,2,3,8,9] 1 (fun kx s1 s2 s3 s8 s9 wr=>s1=yE yH 0∧s2=yE yH 0∧wr=w)
 case atStart=>exact⟨rfl,rfl,rfl⟩
 obtain⟨rfl,rfl,rfl⟩:=hrel;go_wp2_with fail;refine (a4E _).mono ?_;rintro e w2 ⟨rfl,rfl⟩;go_wp2_with fail;refine bodyPost_ret (results_none rfl _ _ _) rfl ?_;exact⟨rfl,rfl⟩
theorem aV6 (w:World):Calls yM 282 #[yC yO 0 0] w fun e w'=>e = .returned (.tuple #[])∧w'=w:=by
 go_enter func282,ntmps282;go_wp2_with fail;refine (aJD 0 (by omega) w).mono ?_;rintro e w' ⟨k,rfl,hk,rfl⟩;go_wp2_with fail;refine (a4F k hk w').mono ?_;rintro e w2 ⟨rfl,rfl⟩;go_wp2_with fail;go_end0;exact⟨rfl,rfl⟩
theorem aY5 (w:World) (F:Nat) (eN:Array Value) (Ok Fin:List Nat→Prop) (zK:∀ l,Ok l→l.length≤100000) (kL:∀ l,Fin l→l.length≤1000000) (enter:∀ args W,(callFunc F args).run yM W = .ok (.enter F args) W) (hit:ItU 3 w F eN Ok Fin) :
  Calls yM 217 #[yG (.func F) #[] eN] w fun e w'=>∃ a c xs,e = .returned (yC a (List.length xs) c)∧Fin xs∧Kept w w':=by
 have HC:=yN (aV5 w F eN Ok Fin zK enter hit);go_enter func217,ntmps217;go_wp2_with fail;refine HC.o.mono ?_;rintro e w1 ⟨v,xs,rfl,hf,ho,hk⟩;have hlen:=kL xs hf;rcases ho.2 with ⟨rfl,h0⟩ | ⟨g,cap,cur,rfl,hbg,hg,kQ,hcm,hcs,aJZ⟩
 ·have hx:xs=[]:=by
   have:xs.length=0:=by omega
   exact List.eq_nil_of_length_eq_zero this
  subst hx;have HX:=yN (yd hf hk);go_wp2_with fail;refine (aV6 w1).mono ?_;rintro e w2 ⟨rfl,rfl⟩;go_wp2_with fail;go_ret;exact⟨yO,0,[],rfl,HX.o.1,HX.o.2⟩
 have hu:UR g 0 xs.length w1:=by
  refine⟨cur,hg,by omega,fun t ht=>?_⟩;have h1:cur.toList.take (xs.length*1)=cW xs:=aJZ;have h2:(cW xs)[t]?=yP (yE yI ((xs[t]'ht:Nat):Int)):=by simp [cW,List.getElem?_eq_getElem ht]
  rw [← h1,List.getElem?_take_of_lt (by omega)] at h2;rw [Nat.zero_add];exact⟨_,by rw [← Array.getElem?_toList];exact h2⟩
 have HX:=yN (yd hf (yd hk hbg));have HU:=yN hu;go_wp2_with fail;refine (a4D g 0 xs.length cap w1 HU.o hlen).mono ?_;rintro e w2 ⟨rfl,hu⟩;have HZ:=yN hu;go_wp2_with fail;go_ret;exact⟨_,_,xs,rfl,HX.o.1,yn HX.o.2.1 (HZ.o.o.below (fun i hi=>by subst hi;exact HX.o.2.2) HX.o.2.1.size)⟩
end
section
theorem aTO (b:Nat) (es:Array MapEntry) (clock:Nat) (w:World) (hb:w.heap[b]?=some (.map es clock)) :
  Calls yM 280 #[.map (some b)] w fun e w'=>e = .returned (.map (some w.heap.size))∧w'=w.alloc (.map es clock):=by
 have hq:=fun w=>run_eql_map_nil_sl (P:=yM) w 248 _ _ (some b) underlying248;go_enter func280,ntmps280;go_wp2_with fail;rw [run_callFunc_extern func342 (by kernel_rfl) (by kernel_rfl) (by kernel_rfl) (e:=Extern.MapsClone.clone) (by kernel_rfl),run_maps_clone_sl w 248 hb];simp only [Result.andThen];rw [Oper.upon_value];go_wp2;rw [run_typeAssert_map_sl _ 248 20 _ _ _ underlying248];simp only [Result.andThen];rw [Oper.upon_value];go_wp2;go_ret;exact⟨rfl,rfl⟩
theorem MF.clone {α:Type} {k:TypeId} {g:α→Lit} {w w':World} {b b' m:Nat} {F:α→Option Value} {es:Array MapEntry} {clock:Nat} (h:MF k g w b m F) (hb:w.heap[b]?=some (.map es clock)) (hb':w'.heap[b']?=some (.map es clock)):MF k g w' b' m F:=by
 obtain⟨D,⟨OA,bGT,h1,h2⟩,h3⟩:=h;rw [hb] at h1;cases h1;exact⟨D,⟨es,clock,hb',h2⟩,h3⟩
def a6M (n:Nat) (par:Nat→List Nat) (F:Nat→Option Value) (w:World) (e:Ending) (w':World):Prop:=∃ AO E8,e = .returned (.pointer (some ⟨AO,0,none⟩))∧GR w' AO E8 n par F∧Kept w w'
theorem aV7 (gb pb n:Nat) (par:Nat→List Nat) (F:Nat→Option Value) (w:World) (h:GR w gb pb n par F) :
  Calls yM 216 #[.pointer (some ⟨gb,0,none⟩)] w (a6M n par F w):=by
 obtain⟨es,clock,kU⟩:=h.m.heap;have c0:=ch 0 h.c;have c1:=ch 1 h.c;have HS:Hid ((fun W:World=>W.cell? ⟨gb,0,none⟩=some (.map (some pb))∧W.cell? ⟨gb,1,none⟩=some (.int .u32 ((n:Int)+1))) w.drew):=yN ⟨c0,c1⟩;have nB:Kept w w.drew:=ym (yk _ _);have HG:=yN (h.kept nB);have HP:Hid (w.drew.heap[pb]?=some (.map es clock)):=yN kU;have HK:=yN nB;clear h kU c0 c1 nB;go_enter func216,ntmps216;go_wp2_with fail;refine aE2 (fun W:World=>W.cell? ⟨gb,0,none⟩=some (.map (some pb))∧W.cell? ⟨gb,1,none⟩=some (.int .u32 ((n:Int)+1))) 12 (by kernel_rfl) (by kernel_rfl) ?_;generalize w.drew=w3 at *;refine tH 0 HS ?_;go_frame;refine tH 1 HS ?_;go_frame;refine tH 2 HS ?_;go_frame;refine tH 3 HS ?_;go_frame;refine tH 5 HS ?_;go_frame;refine tH 6 HS ?_;go_frame;refine tH 7 HS ?_;go_frame;refine tH 8 HS ?_;go_frame;refine oH 4 fun K hK=>?_;go_simp;refine (aTO pb es clock w3 HP.o).mono ?_;rintro e w4 ⟨rfl,rfl⟩;have aA:Kept w3 (w3.alloc (.map es clock)):=(yk _ w3).alloc (ye _) _;have aO:=(MapKept.heap_alloc w3 (.map es clock)).1;obtain⟨mb,vV⟩:∃ mb,mb=w3.heap.size:=⟨_,rfl⟩;rw [← vV] at aO ⊢;have nO:Hid ((fun W:World=>W.cell? ⟨gb,0,none⟩=some (.map (some pb))∧W.cell? ⟨gb,1,none⟩=some (.int .u32 ((n:Int)+1))) (w3.alloc (.map es clock))):=yN ⟨aA.cell HS.o.1,aA.cell HS.o.2⟩;refine hK _ _ nO.o ?_;have oC:=yN (HG.o.m.clone HP.o aO);have aR:=yN (aB HK.o aA);have nG:=yN (HG.o.kept aA);clear hK K aA aO HS HG HP HK vV;generalize w3.alloc _=w4 at *;refine tH 9 nO ?_;go_frame;have aA:=aZ w4 (.cells #[.map (some mb),.int .u32 ((n:Int)+1)] 250);have aO:=bM w4 (.cells #[.map (some mb),.int .u32 ((n:Int)+1)] 250);have eC:Hid ((fun W:World=>W.cell? ⟨gb,0,none⟩=some (.map (some pb))∧W.cell? ⟨gb,1,none⟩=some (.int .u32 ((n:Int)+1))) (w4.alloc (.cells #[.map (some mb),.int .u32 ((n:Int)+1)] 250))):=yN ⟨aA.cell nO.o.1,aA.cell nO.o.2⟩;refine oH 10 fun K hK=>?_;go_simp;refine hK _ _ eC.o ?_;clear hK K;refine tH 11 eC ?_;go_frame;refine QC (by kernel_rfl) ?_ _;have HX:=yN (yd aA aO);clear aA aO;go_wp2_with fail;all_goals go_ret
 all_goals exact⟨_,mb,rfl,⟨HX.o.2,oC.o.kept HX.o.1,fun i a b=>let ⟨v,e1,e2,e3⟩:=nG.o.f i a b;⟨v,e1,bT e2 HX.o.1,e3⟩,nG.o.o,nG.o.s⟩,aB aR.o HX.o.1⟩
theorem aV8 (pb:Nat) (w:World):Calls yM 218 #[.map (some pb)] w fun e w'=>e = .returned (.func (.func 283) #[] #[.pointer (some ⟨w.heap.size,0,none⟩)])∧w'=w.alloc (.cells #[.map (some pb)] 248):=by
 go_enter func218,ntmps218;go_wp2_with fail;all_goals go_ret
 all_goals exact⟨rfl,rfl⟩
theorem a4G:∀ (n:Nat) (l:List Nat),l.Nodup→(∀ i,1≤i→i≤n→i∈l)→n≤l.length:=by
 intro n;induction n with
 | zero=>intros;omega
 | succ n ih=>
  intro l hd h;have hm:=h (n+1) (by omega) (by omega);have:=ih (l.erase (n+1)) (hd.erase _) (fun i h1 h2=>(hd.mem_erase_iff).2 ⟨by omega,h i h1 (by omega)⟩);rw [List.length_erase_of_mem hm] at this;have:=List.length_pos_of_mem hm;omega
theorem a1Q (gb pb n:Nat) (par:Nat→List Nat) (F:Nat→Option Value) (w:World) (h:GR w gb pb n par F) :
  Calls yM 144 #[.pointer (some ⟨gb,0,none⟩)] w fun e w'=>∃ a k c,e = .returned (.slice a k c)∧n≤k∧k≤100∧Kept w w':=by
 have c0:=ch 0 h.c;obtain⟨aA,aO⟩:=aW w (.cells #[.map (some pb)] 248);have H7:∀ i,(F i).isSome=true↔(1≤i∧i≤n):=fun i=>by rw [h.has i];simp
 have hit:=a1O _ w.heap.size pb n 3 F (by decide) (h.m.kept aA) (ch 0 aO);have HS:=yN (aY5 _ _ _ (YH F) (aLG F) (fun l hl=>yf (QI n l hl.1 fun i hi=>(H7 i).1 (hl.2 i hi)) (yf h.s (by decide))) (fun l hl=>yf (QI n l hl.1 fun i hi=>(H7 i).1 ((hl.2 i).1 hi)) (yf h.s (by decide))) (enters_of func283 (by kernel_rfl) rfl) hit);have HA:=yN (yd aA (yd H7 h.s));clear aA aO H7 hit h;go_enter func144,ntmps144;go_wp2_with fail;refine (aV8 pb w).mono ?_;rintro e w1 ⟨rfl,rfl⟩;go_wp2_with fail;refine HS.o.mono ?_;rintro e w2 ⟨a,c,xs,rfl,hf,hk⟩;have HX:=yN (yd hf hk);clear hf hk;go_wp2_with fail;all_goals go_ret
 all_goals exact⟨a,xs.length,c,rfl,a4G n xs HX.o.1.1 (fun i h1 h2=>(HX.o.1.2 i).2 ((HA.o.2.1 i).2 ⟨h1,h2⟩)),yf (QI n xs HX.o.1.1 fun i hi=>(HA.o.2.1 i).1 ((HX.o.1.2 i).1 hi)) HA.o.2.2,aB HA.o.1 HX.o.2⟩
end
end Go.Proofs.YtcldomgdkhenpaaGreat
