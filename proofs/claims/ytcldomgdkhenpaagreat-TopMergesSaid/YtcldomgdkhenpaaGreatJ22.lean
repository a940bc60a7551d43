/- Lemmas. -/
import Derived.Test.YtcldomgdkhenpaaGreatJ21
import Derived.Deep.CutRange
set_option linter.unusedVariables false
set_option maxRecDepth 1000000
set_option maxHeartbeats 40000000
open Go.Proofs.Tryz
open Go.Proofs.Tryz renaming prog → yM
open Go.Value renaming string → yA,pointer → yB,slice → yC,int → yE,func → yG
open Go.IntKind renaming i64 → yH,u64 → yJ
open Go.Obj renaming cells → yL
open Option renaming none → yO,some → yP
open Go.Lib renaming hid → yN
open And renaming intro → yd
open Array renaming getElem?_eq_some_iff → yo
open Go.IntKind renaming wrap_i64 → zk
open Go.RowKit.Below renaming refl → yk
open List renaming append_assoc → zf,append_nil → zi,length_drop → zg,length_take → ze,mem_append → za
open Nat renaming le_refl → ye,le_trans → yf,zero_le → yg
open Go.RowKit
namespace Go.Proofs.YtcldomgdkhenpaaGreat
section
theorem aEB {P:Program} {w:World} (a:Addr) (m:Mode) (f:Fn) (u c:Array Value):(store a (.func f u c) m).run P w=stored P w a (.func f u c) m:=run_store P w a _ m rfl
attribute [local go_sem] aEB
def RV (hs:Key→Nat) (lvl:Nat) (l:List Pr) (w:World) (e:Ending) (w':World):Prop:=
 ∃ c,e = .returned (yB (yP ⟨c,0,yO⟩))∧CT hs w' lvl c (look l)∧Kept w w'
def YE (hs:Key→Nat) (lvl:Nat):Prop:=∀ (l:List Pr) (v:Value) (n:Nat) (w:World),Rd w v n (cV hs l)→n=l.length→n<20→rX l→Calls yM 305 #[v,yE yH (lvl:Nat)] w (RV hs lvl l w)
theorem VM {l:List Pr} (h:rX l) (i:Nat):rX (l.take i):=List.Pairwise.sublist (List.take_sublist _ _) h
theorem aRO (hs:Key→Nat):YE hs 13:=by
 intro l v n w hr hn j5 ho;obtain⟨a,cap,rfl⟩:=hr.shape;have aA:=aZ w (yL #[yE yH 13] 3);have HA:=yN aA;have HR:=yN (hr.kept aA);have HN:=yN (yd hn ho);go_enter func305,ntmps305;go_wp2_with fail;generalize w.alloc _=w1 at *;refine (aE3 w1).mono ?_;rintro e w2 ⟨b,rfl,hb,hk⟩;have HB:=yN hb;have HK:=yN hk;go_wp2_with fail
 go_loopg [5,17] n (fun kx s5 NJ wr=>∃ (i c:Nat) (acc:List Pr),s5=yB (yP ⟨c,0,yO⟩)∧NJ=yE yH i∧i≤n∧n-i≤kx∧Hid (NB wr c acc)∧Hid (bR acc∧look acc=look (l.take i)∧acc.length≤i)∧Hid (Kept w1 wr))
 case atStart=>exact⟨0,b,[],rfl,rfl,yg _,by omega,HB,yN ⟨List.Pairwise.nil,by simp,ye _⟩,HK⟩
 obtain⟨i,c,acc,rfl,rfl,hi,hm,xV,vZ,aV⟩:=hrel;by_cases hlt:i<n
 ·have cD:(i:Int)<(n:Int):=by omega
  have bS:(0:Int)≤(i:Int):=by omega
  have ei:((i:Nat):Int).toNat=i:=by omega
  obtain⟨g,off,rfl,j8,hcm,HC⟩:∃ g off,a=yP ⟨g,off,yO⟩∧n≤cap∧cap≤maxLen∧Hid (∀ j u,(cV hs l)[j]?=yP u→w1.cell? ⟨g,off+j,yO⟩=yP u):=by
   rcases HR.o with ⟨a',cap',e,_,e0,_⟩ | ⟨g,off,cap',e,h1,h2,_,hcs⟩
   ·omega
   cases e;exact⟨g,off,rfl,h1,h2,yN hcs⟩
  obtain⟨p,hp⟩:∃ p,l[i]?=yP p:=⟨l[i]'(by have:=HN.o.1;omega),List.getElem?_eq_getElem _⟩;obtain⟨f1,f2,f3⟩:=GK hs hp;have e1:=aV.o.cell (HC.o _ _ f1);have e2:=aV.o.cell (HC.o _ _ f2);have e3:=aV.o.cell (HC.o _ _ f3);rw [← Nat.add_assoc] at e2 e3;obtain⟨aA,hb⟩:=aW wr (yL #[yA p.1,yA p.2,yE yJ (hs p.1:Nat)] 397);have x0:=ch 0 hb;have x1:=ch 1 hb;have cA:=yN aA;have HP:=yN hp;go_wp2_with fail;refine (J9 c p acc _ (xV.o.kept cA.o) (by have:=vZ.o.2.2;omega) vZ.o.1).mono ?_;rintro e w3 ⟨c',rfl,aO,hk⟩;have eA:=yN (yd aO (aB aV.o (aB cA.o hk)));go_wp2;go_roundg (n-(i+1));case measure=>omega
  refine⟨i+1,c',fL acc p,rfl,by congr 1,by omega,ye _,yN eA.o.1,yN ⟨A6 vZ.o.1 p,?_,?_⟩,yN eA.o.2⟩
  ·have ht:l.take (i+1)=l.take i ++ [p]:=by rw [List.take_add_one,HP.o];rfl
   have SJ:=VM HN.o.2 (i+1);rw [ht] at SJ ⊢;rw [J3 vZ.o.1,aVQ SJ,vZ.o.2.1]
  have:=aGY acc p;have:=vZ.o.2.2;omega
 have dI:i=n:=by omega
 subst dI;go_wp2;go_ret;refine⟨c,rfl,?_,aB HA.o aV.o⟩;have h1:=CT.bucket (hs:=hs) c acc xV.o vZ.o.1;rw [vZ.o.2.1,List.take_of_length_le (by have:=HN.o.1;omega)] at h1;exact h1
theorem aTB (hs:Key→Nat) (kD:∀ k,hs k<18446744073709551616) (lvl:Nat) (hlv:lvl<13) (IH:YE hs (lvl+1)) (l:List Pr) (v:Value) (n:Nat) (w:World) (hr:Rd w v n (cV hs l)) (hn:n=l.length) (jM:0<n) (j5:n<20) (ho:rX l) :
  Calls yM 305 #[v,yE yH (lvl:Nat)] w (RV hs lvl l w):=by
 obtain⟨hA,hB,hk⟩:=dF w (yL #[yE yH (lvl:Nat)] 3) (yL #[yG (.func 366) #[] #[yB (yP ⟨w.heap.size,0,yO⟩)]] 452);have d1:=ch 0 hB;have d2:=ch 0 hA;have hs2:=(yo.1 hB).1;have R7:¬ (lvl:Int)=13:=by omega
 have a6C:((lvl:Int) == 13)=false:=by rw [beq_eq_false_iff_ne];exact R7
 have HR:=yN (hr.kept hk);have HK:=yN hk;have HN:=yN (yd hn ho);have fW:((lvl+1:Nat):Int)=(lvl:Int)+1:=by omega
 have n4:Hid (∀ (l:List Pr) (v:Value) (n:Nat) (w:World),Rd w v n (cV hs l)→n=l.length→n<20→rX l→Calls yM 305 #[v,yE yH ((lvl:Int)+1)] w (RV hs (lvl+1) l w)):=yN (fun l v n w a b c d=>by have h:=IH l v n w a b c d;rw [fW] at h;exact h);have wl1:yH.wrap ((lvl:Int)+1)=(lvl:Int)+1:=by rw [zk];omega
 clear fW;have TN:=yN kD;clear hr hn ho hA hB hk IH kD;go_enter func305,ntmps305;go_wp2_with fail;generalize (w.alloc _).alloc _=w2 at *;obtain⟨lb,AK⟩:∃ lb,lb=w.heap.size:=⟨_,rfl⟩;rw [← AK] at d1 d2 hs2 ⊢;obtain⟨fb,jO⟩:∃ fb,fb=lb+1:=⟨_,rfl⟩;rw [← jO] at d1 hs2 ⊢;have oK:=yN (yd AK jO);clear AK jO;refine (aH9 v n _ w2 HR.o (by rw [aVM,HN.o.1]) (by omega) (aVN hs l)).mono ?_;rintro e w3 ⟨v',rfl,ho,hk3⟩;obtain⟨g,cap,rfl⟩:=aF5 ho jM;have hSH:SH hs lvl fb lb w2.heap.size w3 g n cap l.toArray w3:=⟨ho,P6 _ _,by simpa using HN.o.1.symm,hs2,by have:=oK.o;omega,hk3.cell d1,hk3.cell d2⟩;have TP:=yN hSH;have aL:=yN (aB HK.o hk3);have tB:=yN (yd HK.o.size hk3.size);clear ho hk3 hSH d1 d2;go_wp2_with fail;refine (aPQ hs lvl fb lb TN.o hlv w2.heap.size g n cap l.toArray w3 w3 TP.o j5).mono ?_;rintro e w4 ⟨rfl,d',hp,hq,hS⟩;obtain⟨ls,bU⟩:∃ ls,ls=d'.toList:=⟨_,rfl⟩;have hpl:ls.Perm l:=by
  have:=aEE hp (by simpa using HN.o.1.symm);rw [bU];simpa using this
 have gT:Hid (Up hs lvl ls∧rX ls∧look ls=look l∧ls.length=n):=yN ⟨by rw [bU];exact aVR hS.2.2.1 hq,HN.o.2.perm hpl,aVP HN.o.2 hpl,by rw [hpl.length_eq];exact HN.o.1.symm⟩;have hg2:=hS.le;have hgr:=hS.2.1;have aR:Hid (Kept w w4):=yN (Below.grown aL.o hgr aL.o.size (fun q hq'=>by cases hq';have:=tB.o.1;omega));have HRW:Hid (w4.ownsRow w2.heap.size 397 3 (yC (yP ⟨g,0,yO⟩) n cap) n (cV hs ls)):=yN (by rw [bU];exact hS.1);have e1:=hS.cf;have e2:=hS.cl;clear hp hq hS bU hpl hg2 hgr TP;go_wp2_with fail;refine (JV w4).mono ?_;rintro e w5 ⟨c0,rfl,uM,bQ⟩;have OG:=yN uM;have bI:=yN (aB aR.o bQ);have tC:=yN (dH (bT HRW.o bQ));have EL:=yN (yd (bQ.cell e1) (bQ.cell e2));clear uM bQ e1 e2 HRW aR;go_wp2_with fail
 go_loopg [0,9] n (fun kx s0 s9 wr=>∃ (m c:Nat) (a:Option Addr) (cap:Nat) (pre rest:List Pr) (P:Nat→Option Pr) (Q:Nat→Option Nat),s0=yC a m cap∧s9=yB (yP ⟨c,0,yO⟩)∧m≤n∧Hid (m≤kx∧ls=pre++rest∧m=rest.length)∧Hid (Rd w5 (yC a m cap) m (cV hs rest))∧
  Hid (Kept w5 wr)∧Hid (TI hs wr lvl c pre P Q)∧Hid (∀ p∈pre,∀ q∈rest,fY hs lvl p<fY hs lvl q))
 case atStart=>exact⟨n,c0,_,cap,[],ls,_,_,rfl,rfl,ye _,yN ⟨ye _,rfl,gT.o.2.2.2.symm⟩,tC,yN (yk _ _),yN (aI6 OG.o),yN (by simp)⟩
 clear tC OG;obtain⟨m,c,a,cap,pre,rest,P,Q,rfl,rfl,SS,HL,tC,aV,tD,oJ⟩:=hrel;by_cases zR:0<m
 ·have R5:0<(m:Int):=by omega
  obtain⟨g,off,rfl,j8,hcm,HC⟩:∃ g off,a=yP ⟨g,off,yO⟩∧m≤cap∧cap≤maxLen∧Hid (∀ j u,(cV hs rest)[j]?=yP u→w5.cell? ⟨g,off+j,yO⟩=yP u):=by
   rcases tC.o with ⟨a',cap',e,_,e0,_⟩ | ⟨g,off,cap',e,h1,h2,_,hcs⟩
   ·omega
   cases e;exact⟨g,off,rfl,h1,h2,yN hcs⟩
  obtain⟨p0,tl,jB⟩:∃ p0 tl,rest=p0::tl:=by
   cases rest with
   | nil=>have:=HL.o.2.2;simp at this;omega
   | cons p0 tl=>exact⟨p0,tl,rfl⟩
  have iW:rest[0]?=yP p0:=by rw [jB];rfl
  obtain⟨f1,f2,f3⟩:=GK hs iW;have g1:wr.cell? ⟨g,off,yO⟩=yP (yA p0.1):=by have:=aV.o.cell (HC.o _ _ f1);simpa using this
  have g2:wr.cell? ⟨g,off+1,yO⟩=yP (yA p0.2):=by have:=aV.o.cell (HC.o _ _ f2);simpa using this
  have g3:wr.cell? ⟨g,off+2,yO⟩=yP (yE yJ (hs p0.1:Nat)):=by have:=aV.o.cell (HC.o _ _ f3);simpa using this
  have g4:=aV.o.cell EL.o.1;have g5:=aV.o.cell EL.o.2;have uK:=yN (yd iW jB);have j4:rest.Sublist ls:=by rw [HL.o.2.1];exact List.sublist_append_right _ _
  have HUR:Hid (Up hs lvl rest∧rX rest):=yN ⟨List.Pairwise.sublist j4 gT.o.1,List.Pairwise.sublist j4 gT.o.2.1⟩;obtain⟨i0,bS⟩:∃ i0,i0=five (hs p0.1) lvl:=⟨_,rfl⟩;have cY:i0<32:=by rw [bS];exact uZ _ _
  have E4:=yN bS;have ZW:Hid (fb<wr.heap.size∧lb<wr.heap.size∧g<wr.heap.size):=yN ⟨mU g4,mU g5,mU g1⟩;clear f1 f2 f3 iW jB j4 bS tC;go_wp2_with fail
  go_cut [10] from 34 to 69 (fun cK wx=>∃ ib:Nat,cK=yB (yP ⟨ib,0,yO⟩)∧Hid ((fun W:World=>W.cell? ⟨g,off,yO⟩=yP (yA p0.1)∧W.cell? ⟨g,off+1,yO⟩=yP (yA p0.2)∧W.cell? ⟨g,off+2,yO⟩=yP (yE yJ (hs p0.1:Nat))∧W.cell? ⟨fb,0,yO⟩=yP (yG (.func 366) #[] #[yB (yP ⟨lb,0,yO⟩)])∧W.cell? ⟨lb,0,yO⟩=yP (yE yH (lvl:Nat))) wx)∧Hid (wx.cell? ⟨ib,0,yO⟩=yP (yE yH (i0:Nat)))∧Hid (Kept wr wx))
  case first=>
   rename_i J0 K0 CM CN;have aP:=yN (gB wr);refine jE (fun W:World=>W.cell? ⟨g,off,yO⟩=yP (yA p0.1)∧W.cell? ⟨g,off+1,yO⟩=yP (yA p0.2)∧W.cell? ⟨g,off+2,yO⟩=yP (yE yJ (hs p0.1:Nat))∧W.cell? ⟨fb,0,yO⟩=yP (yG (.func 366) #[] #[yB (yP ⟨lb,0,yO⟩)])∧W.cell? ⟨lb,0,yO⟩=yP (yE yH (lvl:Nat))) 7 ⟨g1,g2,g3,g4,g5⟩ fun HS=>?_;clear g1 g2 g3 g4 g5;generalize wr.drew=wd at *;refine tH 0 HS ?_;refine tH 1 HS ?_;refine tH 2 HS ?_;go_frame;refine tH 3 HS ?_;go_frame;refine A8 (x:=4) (y:=5) (by kernel_rfl) rfl rfl (fun K hK=>?_) (fun K hK=>?_)
   ·go_simp;refine (KL hs lvl lb TN.o hlv p0 wd HS.o.2.2.2.2).mono ?_;rintro e we ⟨rfl,hk⟩;rw [← E4.o];have aF:=yN (aD (aD (aD (aD bL))) hk HS.o);have lZ:=yN (aB aP.o hk);refine hK _ _ aF.o ?_;clear hK K HS hk aP;have HS:=aF;clear aF;have hst:=aZ we (yL #[yE yH (i0:Nat)] 3);obtain⟨aA,hb⟩:=aW we (yL #[yE yH 0] 3);have zM:(we.alloc (yL #[yE yH (i0:Nat)] 3)).cell? ⟨we.heap.size,0,yO⟩=yP (yE yH (i0:Nat)):=aG (bM we _) rfl;have z0:=ch 0 hb;have f0:=fh 0 hb;have sK:=yN (aD (aD (aD (aD bL))) aA HS.o);have mN:=yN (aD (aD (aD (aD bL))) hst HS.o);have HZ:=yN zM;have fO:=yN (aB lZ.o hst);clear aA hst hb zM lZ;refine oH 5 fun K hK=>?_;go_simp;refine hK _ _ sK.o ?_;clear hK K HS;refine oH 6 fun K hK=>?_;go_simp;refine hK _ _ mN.o ?_;clear hK K sK z0 f0;refine dA ?_;refine CN _ _ (Met.intro (CM _ _ ?_))
    (repeat apply Exists.intro)
    exact⟨⟨_,rfl,mN,HZ,fO⟩,rfl⟩
   go_simp;obtain⟨aA,hb⟩:=aW wd (yL #[yE yH 0] 3);have sK:=yN (aD (aD (aD (aD bL))) aA HS.o);have AG:=yN (aB aP.o aA);have HB:=yN hb;refine hK _ _ sK.o ?_;clear hK K HS aA hb;generalize wd.alloc _=wa at *;obtain⟨ib,hib⟩:∃ ib,ib=wd.heap.size:=⟨_,rfl⟩;rw [← hib] at HB ⊢;have HIB:=yN (show wr.heap.size≤ib by rw [hib];exact aP.o.size);clear hib aP;refine oH 4 fun K hK=>?_;go_simp;refine (KL hs lvl lb TN.o hlv p0 wa sK.o.2.2.2.2).mono ?_;rintro e we ⟨rfl,hk⟩;rw [← E4.o];have aF:=yN (yd (hk.cell sK.o.1) (yd (hk.cell sK.o.2.1) (yd (hk.cell sK.o.2.2.1) (yd (hk.cell sK.o.2.2.2.1) (hk.cell sK.o.2.2.2.2)))));have lZ:=yN (aB AG.o hk);have IV:=(hk.block ib (yo.1 HB.o).1).trans HB.o;have z0:=ch 0 IV;have f0:=fh 0 IV;have iU:=heap_setCell (o:=0) (v:=yE yH (i0:Nat)) IV;have HZ:Hid ((we.setCell ⟨ib,0,yO⟩ (yE yH (i0:Nat))).cell? ⟨ib,0,yO⟩=yP (yE yH (i0:Nat))):=yN (aG iU rfl);have fO:Hid (Kept wr (we.setCell ⟨ib,0,yO⟩ (yE yH (i0:Nat)))):=yN (lZ.o.setCell HIB.o _);have hlt:fb<wr.heap.size∧lb<wr.heap.size∧g<wr.heap.size:=⟨ZW.o.1,ZW.o.2.1,ZW.o.2.2⟩;have bHH:=HIB.o;have mN:Hid ((fun W:World=>W.cell? ⟨g,off,yO⟩=yP (yA p0.1)∧W.cell? ⟨g,off+1,yO⟩=yP (yA p0.2)∧W.cell? ⟨g,off+2,yO⟩=yP (yE yJ (hs p0.1:Nat))∧W.cell? ⟨fb,0,yO⟩=yP (yG (.func 366) #[] #[yB (yP ⟨lb,0,yO⟩)])∧W.cell? ⟨lb,0,yO⟩=yP (yE yH (lvl:Nat))) (we.setCell ⟨ib,0,yO⟩ (yE yH (i0:Nat)))):=yN (⟨(World.cell?_setCell_other _ _ _ _ (by (try simp) <;> omega)).trans (aF.o.1),(World.cell?_setCell_other _ _ _ _ (by (try simp) <;> omega)).trans (aF.o.2.1),(World.cell?_setCell_other _ _ _ _ (by (try simp) <;> omega)).trans (aF.o.2.2.1),(World.cell?_setCell_other _ _ _ _ (by (try simp) <;> omega)).trans (aF.o.2.2.2.1),(World.cell?_setCell_other _ _ _ _ (by (try simp) <;> omega)).trans (aF.o.2.2.2.2)⟩);refine hK _ _ aF.o ?_;clear hK K sK hk AG IV iU HB;refine oH 6 fun K hK=>?_;go_simp;refine hK _ _ mN.o ?_;clear hK K z0 f0 aF;refine dA ?_;refine CN _ _ (Met.intro (CM _ _ ?_))
   (repeat apply Exists.intro)
   exact⟨⟨_,rfl,mN,HZ,fO⟩,rfl⟩
  case rest=>
  clear g1 g2 g3 g4 g5;obtain⟨ib,rfl,mN,HZ,fO⟩:=hcut;go_wp2_with fail;refine (aTA hs lvl fb lb ib i0 TN.o hlv g off m cap rest wc HL.o.2.2 (by omega) mN.o.2.2.2.1 mN.o.2.2.2.2 HZ.o (fun j u hj=>fO.o.cell (aV.o.cell (HC.o j u hj)))).mono ?_;rintro e w6 ⟨kA,hres⟩;have dS:=yN (aB fO.o kA);have g1:=kA.cell mN.o.1;have g2:=kA.cell mN.o.2.1;have g4:=kA.cell mN.o.2.2.2.1;have g5:=kA.cell mN.o.2.2.2.2;have g6:=kA.cell HZ.o;clear kA fO mN HZ;have X8:∃ k:Nat,0<k∧k≤m∧(∀ x∈rest.take k,fY hs lvl x=i0)∧(∀ x∈rest.drop k,i0<fY hs lvl x)∧((e = .returned (yE yH (-1))∧k=m)∨e = .returned (yE yH (k:Nat))):=by
   rcases hres with ⟨rfl,hno⟩ | ⟨k,q,zT,hP,gV,rfl⟩
   ·refine⟨m,zR,ye _,fun x hx=>?_,fun x hx=>?_,.inl ⟨rfl,rfl⟩⟩;·exact Decidable.byContradiction (hno x (List.mem_of_mem_take hx))
    rw [List.drop_eq_nil_of_le (by rw [← HL.o.2.2];exact ye _)] at hx;cases hx
   have l7:k<m:=by have:=(List.getElem?_eq_some_iff.1 zT).1;rw [← HL.o.2.2] at this;exact this
   have bF:0<k:=by
    rcases Nat.eq_zero_or_pos k with e | e
    ·subst e;rw [uK.o.1] at zT;cases zT;exact absurd E4.o.symm hP
    exact e
   refine⟨k,bF,by omega,fun x hx=>?_,aYW HUR.o.1 uK.o.1 E4.o.symm zT hP,.inr rfl⟩;obtain⟨j,hj⟩:=List.getElem?_of_mem hx;rw [List.getElem?_take] at hj
   split at hj
   ·next hlt=>exact Decidable.byContradiction (gV j x hj hlt)
   cases hj
  clear hres;obtain⟨k,bF,l7,hG1,hG2,hE⟩:=X8;have HG:=yN (yd hG1 hG2);clear hG1 hG2;have pK:k≤cap:=yf l7 j8;have a7P:(k:Int)≤(cap:Int):=by omega
  have a7Q:(k:Int)≤(m:Int):=by omega
  have a7R:(0:Int)≤(k:Int):=by omega
  have a5F:¬ cap=0:=by omega
  have bHI:(m:Int)≤(cap:Int):=by omega
  have rV:Hid (∀ p∈pre,fY hs lvl p≠i0):=yN (fun p hp e=>by
   have h1:=oJ.o p hp p0 (by rw [uK.o.2];simp);have h2:fY hs lvl p0=i0:=E4.o.symm;omega)
  have BX:Hid (∀ p∈pre++rest.take k,∀ q∈rest.drop k,fY hs lvl p<fY hs lvl q):=yN (fun p hp q hq=>by
   rcases za.1 hp with hp | hp
   ·exact oJ.o p hp q (List.mem_of_mem_drop hq)
   rw [HG.o.1 p hp];exact HG.o.2 q hq)
  have oL:Hid (ls=pre++rest.take k++rest.drop k∧m-k=(rest.drop k).length):=yN ⟨by rw [zf,List.take_append_drop];exact HL.o.2.1,by rw [zg,← HL.o.2.2]⟩;rcases hE with ⟨rfl,a8R⟩ | rfl
  ·have E5:k=m:=a8R;by_cases aS:k=1
   ·have ZX:(k:Int)=1:=by omega
    subst E5;subst aS;go_wp2_with fail;have aP:=yN (dY dS.o);refine jE (fun W:World=>W.cell? ⟨g,off,yO⟩=yP (yA p0.1)∧W.cell? ⟨g,off+1,yO⟩=yP (yA p0.2)∧W.cell? ⟨ib,0,yO⟩=yP (yE yH (i0:Nat))) 8 ⟨g1,g2,g6⟩ fun HS=>?_;clear g1 g2 g4 g5 g6;generalize w6.drew=w7 at *;refine tH 0 HS ?_;refine tH 1 HS ?_;refine tH 2 HS ?_;refine tH 3 HS ?_;refine tH 4 HS ?_;refine tH 5 HS ?_;go_frame;refine oH 6 fun K hK=>?_;go_simp;refine (CX c i0 p0 P Q w7 (tD.o.kept aP.o).ns tD.o.dis cY).mono ?_;rintro e w8 ⟨c2,rfl,uM,hk⟩;have aF:=yN (aD (aD bL) hk HS.o);have wH:Hid (TI hs w8 lvl c2 (pre++rest.take 1) (put P i0 (yP p0)) (put Q i0 yO)):=yN (by rw [uK.o.2];exact tD.o.pair (aB aP.o hk) rV.o E4.o.symm uM);have cX:=yN (aB aV.o (aB aP.o hk));refine hK _ _ aF.o ?_;clear hK K HS uM hk aP;have HS:=aF;clear aF;refine oH 7 fun K hK=>?_;go_simp;refine hK _ _ HS.o ?_;clear hK K;refine dA ?_;by_cases nW:cap=1
    ·go_wp2;go_roundg 0;case measure=>have:=HL.o.1;omega
     exact⟨0,c2,_,0,pre++rest.take 1,rest.drop 1,put P i0 (yP p0),put Q i0 yO,rfl,rfl,by omega,yN ⟨yg _,oL.o.1,by have h9:=oL.o.2;omega⟩,yN (by have h9:=PX (w:=w5) (g:=g) (off:=off) (hs:=hs) HL.o.2.2 l7 j8 nW;rw [Nat.sub_self] at h9;exact h9),cX,wH,BX⟩
    have ZY:¬ cap-1=0:=by omega
    go_wp2;go_roundg 0;case measure=>have:=HL.o.1;omega
    exact⟨0,c2,_,cap-1,pre++rest.take 1,rest.drop 1,put P i0 (yP p0),put Q i0 yO,rfl,rfl,by omega,yN ⟨yg _,oL.o.1,by have h9:=oL.o.2;omega⟩,yN (by have h9:=Q7 HC.o HL.o.2.2 l7 j8 hcm;rw [Nat.sub_self] at h9;exact h9),cX,wH,BX⟩
   have ZX:¬ (k:Int)=1:=by omega
   subst E5;go_wp2_with fail;have aP:=yN (dY dS.o);refine jE (fun W:World=>W.cell? ⟨ib,0,yO⟩=yP (yE yH (i0:Nat))∧W.cell? ⟨lb,0,yO⟩=yP (yE yH (lvl:Nat))) 10 ⟨g6,g5⟩ fun HS=>?_;clear g1 g2 g4 g5 g6;generalize w6.drew=w7 at *;refine tH 0 HS ?_;refine tH 1 HS ?_;refine tH 2 HS ?_;refine tH 3 HS ?_;refine tH 4 HS ?_;refine tH 5 HS ?_;refine tH 6 HS ?_;go_frame;have sP:(rest.take k).length=k:=by rw [ze,← HL.o.2.2];exact Nat.min_eq_left l7
   refine oH 7 fun K hK=>?_;go_simp;refine (n4.o (rest.take k) (yC (yP ⟨g,off,yO⟩) k cap) k w7 (aHL (fun j u hj=>aP.o.cell (aV.o.cell (HC.o j u hj))) bF pK hcm) sP.symm (by omega) (VM HUR.o.2 k)).mono ?_;rintro e w8 ⟨b2,rfl,dK,hk⟩;have aF:=yN (aD bL hk HS.o);have OH:=yN dK;have cX:=yN (aB aP.o hk);refine hK _ _ aF.o ?_;clear hK K HS dK hk sP aP;have HS:=aF;clear aF;refine oH 8 fun K hK=>?_;go_simp;refine (FZ c i0 b2 P Q w8 (tD.o.kept cX.o).ns tD.o.dis cY).mono ?_;rintro e w9 ⟨c2,rfl,uM,hk⟩;have aF:=yN (aD bL hk HS.o);have wH:=yN (tD.o.kid (aB cX.o hk) rV.o HG.o.1 (OH.o.kept hk) uM);have eO:=yN (aB aV.o (aB cX.o hk));refine hK _ _ aF.o ?_;clear hK K HS uM hk;have HS:=aF;clear aF;refine oH 9 fun K hK=>?_;go_simp;refine hK _ _ HS.o ?_;clear hK K;refine dA ?_;by_cases nW:cap=k
   ·go_wp2;go_roundg 0;case measure=>have:=HL.o.1;omega
    exact⟨0,c2,_,0,pre++rest.take k,rest.drop k,put P i0 yO,put Q i0 (yP b2),rfl,rfl,by omega,yN ⟨yg _,oL.o.1,by have h9:=oL.o.2;omega⟩,yN (by have h9:=PX (w:=w5) (g:=g) (off:=off) (hs:=hs) HL.o.2.2 l7 j8 nW;rw [Nat.sub_self] at h9;exact h9),eO,wH,BX⟩
   have ZY:¬ cap-k=0:=by omega
   go_wp2;go_roundg 0;case measure=>have:=HL.o.1;omega
   exact⟨0,c2,_,cap-k,pre++rest.take k,rest.drop k,put P i0 yO,put Q i0 (yP b2),rfl,rfl,by omega,yN ⟨yg _,oL.o.1,by have h9:=oL.o.2;omega⟩,yN (by have h9:=Q7 HC.o HL.o.2.2 l7 j8 hcm;rw [Nat.sub_self] at h9;exact h9),eO,wH,BX⟩
  by_cases aS:k=1
  ·have ZX:(k:Int)=1:=by omega
   subst aS;go_wp2_with fail;have aP:=yN (dY dS.o);refine jE (fun W:World=>W.cell? ⟨g,off,yO⟩=yP (yA p0.1)∧W.cell? ⟨g,off+1,yO⟩=yP (yA p0.2)∧W.cell? ⟨ib,0,yO⟩=yP (yE yH (i0:Nat))) 8 ⟨g1,g2,g6⟩ fun HS=>?_;clear g1 g2 g4 g5 g6;generalize w6.drew=w7 at *;refine tH 0 HS ?_;refine tH 1 HS ?_;refine tH 2 HS ?_;refine tH 3 HS ?_;refine tH 4 HS ?_;refine tH 5 HS ?_;go_frame;refine oH 6 fun K hK=>?_;go_simp;refine (CX c i0 p0 P Q w7 (tD.o.kept aP.o).ns tD.o.dis cY).mono ?_;rintro e w8 ⟨c2,rfl,uM,hk⟩;have aF:=yN (aD (aD bL) hk HS.o);have wH:Hid (TI hs w8 lvl c2 (pre++rest.take 1) (put P i0 (yP p0)) (put Q i0 yO)):=yN (by rw [uK.o.2];exact tD.o.pair (aB aP.o hk) rV.o E4.o.symm uM);have cX:=yN (aB aV.o (aB aP.o hk));refine hK _ _ aF.o ?_;clear hK K HS uM hk aP;have HS:=aF;clear aF;refine oH 7 fun K hK=>?_;go_simp;refine hK _ _ HS.o ?_;clear hK K;refine dA ?_;by_cases nW:cap=1
   ·go_wp2;go_roundg (m-1);case measure=>have:=HL.o.1;omega
    exact⟨m-1,c2,_,0,pre++rest.take 1,rest.drop 1,put P i0 (yP p0),put Q i0 yO,rfl,rfl,by omega,yN ⟨ye _,oL.o.1,oL.o.2⟩,yN (PX HL.o.2.2 l7 j8 nW),cX,wH,BX⟩
   have ZY:¬ cap-1=0:=by omega
   go_wp2;go_roundg (m-1);case measure=>have:=HL.o.1;omega
   exact⟨m-1,c2,_,cap-1,pre++rest.take 1,rest.drop 1,put P i0 (yP p0),put Q i0 yO,rfl,rfl,by omega,yN ⟨ye _,oL.o.1,oL.o.2⟩,yN (Q7 HC.o HL.o.2.2 l7 j8 hcm),cX,wH,BX⟩
  have ZX:¬ (k:Int)=1:=by omega
  go_wp2_with fail;have aP:=yN (dY dS.o);refine jE (fun W:World=>W.cell? ⟨ib,0,yO⟩=yP (yE yH (i0:Nat))∧W.cell? ⟨lb,0,yO⟩=yP (yE yH (lvl:Nat))) 10 ⟨g6,g5⟩ fun HS=>?_;clear g1 g2 g4 g5 g6;generalize w6.drew=w7 at *;refine tH 0 HS ?_;refine tH 1 HS ?_;refine tH 2 HS ?_;refine tH 3 HS ?_;refine tH 4 HS ?_;refine tH 5 HS ?_;refine tH 6 HS ?_;go_frame;have sP:(rest.take k).length=k:=by rw [ze,← HL.o.2.2];exact Nat.min_eq_left l7
  refine oH 7 fun K hK=>?_;go_simp;refine (n4.o (rest.take k) (yC (yP ⟨g,off,yO⟩) k cap) k w7 (aHL (fun j u hj=>aP.o.cell (aV.o.cell (HC.o j u hj))) bF pK hcm) sP.symm (by omega) (VM HUR.o.2 k)).mono ?_;rintro e w8 ⟨b2,rfl,dK,hk⟩;have aF:=yN (aD bL hk HS.o);have OH:=yN dK;have cX:=yN (aB aP.o hk);refine hK _ _ aF.o ?_;clear hK K HS dK hk sP aP;have HS:=aF;clear aF;refine oH 8 fun K hK=>?_;go_simp;refine (FZ c i0 b2 P Q w8 (tD.o.kept cX.o).ns tD.o.dis cY).mono ?_;rintro e w9 ⟨c2,rfl,uM,hk⟩;have aF:=yN (aD bL hk HS.o);have wH:=yN (tD.o.kid (aB cX.o hk) rV.o HG.o.1 (OH.o.kept hk) uM);have eO:=yN (aB aV.o (aB cX.o hk));refine hK _ _ aF.o ?_;clear hK K HS uM hk;have HS:=aF;clear aF;refine oH 9 fun K hK=>?_;go_simp;refine hK _ _ HS.o ?_;clear hK K;refine dA ?_;by_cases nW:cap=k
  ·go_wp2;go_roundg (m-k);case measure=>have:=HL.o.1;omega
   exact⟨m-k,c2,_,0,pre++rest.take k,rest.drop k,put P i0 yO,put Q i0 (yP b2),rfl,rfl,by omega,yN ⟨ye _,oL.o.1,oL.o.2⟩,yN (PX HL.o.2.2 l7 j8 nW),eO,wH,BX⟩
  have ZY:¬ cap-k=0:=by omega
  go_wp2;go_roundg (m-k);case measure=>have:=HL.o.1;omega
  exact⟨m-k,c2,_,cap-k,pre++rest.take k,rest.drop k,put P i0 yO,put Q i0 (yP b2),rfl,rfl,by omega,yN ⟨ye _,oL.o.1,oL.o.2⟩,yN (Q7 HC.o HL.o.2.2 l7 j8 hcm),eO,wH,BX⟩
 have R5:¬ 0<(m:Int):=by omega
 have hz:m=0:=by omega
 subst hz;go_wp2;go_ret;have jB:rest=[]:=List.eq_nil_of_length_eq_zero HL.o.2.2.symm;have qU:ls=pre:=by rw [HL.o.2.1,jB,zi]
 refine⟨c,rfl,?_,aB bI.o aV.o⟩;rw [← gT.o.2.2.1,qU];exact tD.o.ct hlv
theorem aPZ (a:Option Addr) (cap:Nat) (fv:Value) (w:World):Calls yM 435 #[yC a 0 cap,yE yH 0,yE yH 0,fv] w fun e w'=>e = .returned (.tuple #[])∧w=w':=by
 go_enter func435,ntmps435;go_wp2_with fail
 go_loopg [8] 0 (fun kx s8 wr=>s8=yE yH 1∧wr=w)
 case atStart=>exact⟨rfl,rfl⟩
 obtain⟨rfl,rfl⟩:=hrel;go_wp2;go_end0;exact⟨rfl,rfl⟩
theorem aRP (a:Option Addr) (cap:Nat) (fv:Value) (w:World):Calls yM 417 #[yC a 0 cap,yE yH 0,fv] w fun e w'=>e = .returned (.tuple #[])∧w=w':=by
 go_enter func417,ntmps417;go_wp2_with fail
 go_loopg [7,8] 0 (fun kx s7 s8 wr=>s7=yE yH 0∧s8=yE yH 20∧wr=w)
 case atStart=>exact⟨rfl,rfl,rfl⟩
 obtain⟨rfl,rfl,rfl⟩:=hrel;go_wp2_with fail;refine (aPZ a cap fv _).mono ?_;rintro e w1 ⟨rfl,rfl⟩;go_wp2_with fail
 go_loopg [6] 0 (fun kx s6 wx=>s6=yE yH 20∧wx=wr)
 case atStart=>exact⟨rfl,rfl⟩
 obtain⟨rfl,rfl⟩:=hrel;go_wp2;go_end0;exact⟨rfl,rfl⟩
theorem aPR (a:Option Addr) (cap:Nat) (fv:Value) (w:World):Calls yM 368 #[yC a 0 cap,fv] w fun e w'=>e = .returned (.tuple #[])∧w=w':=by
 go_enter func368,ntmps368;go_wp2_with fail;refine (aRP a cap fv w).mono ?_;rintro e w1 ⟨rfl,rfl⟩;go_wp2;go_end0;exact⟨rfl,rfl⟩
theorem aVS (hs:Key→Nat) (lvl:Nat) (hlv:lvl<13) (v:Value) (w:World) (hr:Rd w v 0 (cV hs [])) :
  Calls yM 305 #[v,yE yH (lvl:Nat)] w (RV hs lvl [] w):=by
 obtain⟨hA,hB,hk⟩:=dF w (yL #[yE yH (lvl:Nat)] 3) (yL #[yG (.func 366) #[] #[yB (yP ⟨w.heap.size,0,yO⟩)]] 452);have R7:¬ (lvl:Int)=13:=by omega
 have a6C:((lvl:Int) == 13)=false:=by rw [beq_eq_false_iff_ne];exact R7
 have HR:=yN (hr.kept hk);have HK:=yN hk;go_enter func305,ntmps305;go_wp2_with fail;generalize (w.alloc _).alloc _=w2 at *;refine (aH9 v 0 [] w2 HR.o rfl (by omega) (by simp)).mono ?_;rintro e w3 ⟨v',rfl,ho,hk3⟩;obtain⟨a,cap,rfl⟩:=bW ho;have aL:=yN (aB HK.o hk3);go_wp2_with fail;refine (aPR a cap _ w3).mono ?_;rintro e w4 ⟨rfl,rfl⟩;go_wp2_with fail;refine (JV w3).mono ?_;rintro e w5 ⟨c0,rfl,uM,bQ⟩;have OG:=yN uM;have bI:=yN (aB aL.o bQ);go_wp2_with fail
 go_loopg [0,9] 0 (fun kx s0 s9 wr=>s0=yC a 0 cap∧s9=yB (yP ⟨c0,0,yO⟩)∧wr=w5)
 case atStart=>exact⟨rfl,rfl,rfl⟩
 obtain⟨rfl,rfl,rfl⟩:=hrel;go_wp2;go_ret;exact⟨c0,rfl,(aI6 OG.o).ct hlv,bI.o⟩
theorem aHM (hs:Key→Nat) (kD:∀ k,hs k<18446744073709551616):∀ d lvl,lvl+d=13→YE hs lvl
 | 0,lvl,h=>by
  obtain rfl:lvl=13:=by omega
  exact aRO hs
 | d+1,lvl,h=>by
  intro l v n w hr hn j5 ho;by_cases h0:0<n;·exact aTB hs kD lvl (by omega) (aHM hs kD d (lvl+1) (by omega)) l v n w hr hn h0 j5 ho
  have hz:n=0:=by omega
  subst hz;have hl:l=[]:=List.eq_nil_of_length_eq_zero hn.symm;subst hl;exact aVS hs lvl (by omega) v w hr
end
end Go.Proofs.YtcldomgdkhenpaaGreat
