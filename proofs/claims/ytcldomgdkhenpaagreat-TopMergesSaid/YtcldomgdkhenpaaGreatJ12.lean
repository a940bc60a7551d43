/- Lemmas. -/
import Derived.Test.YtcldomgdkhenpaaGreatJ07
import Derived.Maps.AppendAt
set_option linter.unusedVariables false
set_option maxRecDepth 1000000
set_option maxHeartbeats 40000000
open Go.Proofs.Tryz
open Go.Proofs.Tryz renaming prog → yM
open Go.Value renaming string → yA,pointer → yB,slice → yC,bool → yD,int → yE,agg → yF,func → yG
open Go.IntKind renaming i64 → yH,u32 → yI,u8 → yK
open Go.Obj renaming cells → yL
open Option renaming none → yO,some → yP
open Go.Lib renaming hid → yN
open And renaming intro → yd
open Array renaming getElem?_eq_some_iff → yo
open ByteArray renaming empty → yj
open Go.IntKind renaming wrap_i64 → zk
open Go.RowKit.Below renaming drew → ym,heap_setCell → yl,refl → yk,trans → yn
open Go.World renaming cell?_of_block → zn
open List renaming append_assoc → zf,append_nil → zi,length_append → yy,length_cons → zh,length_drop → zg,length_take → ze,mem_append → za,mem_cons → yx,mem_map → zj,pairwise_cons → yz
open Nat renaming le_refl → ye,le_trans → yf,lt_of_lt_of_le → yi,zero_le → yg
open Go.RowKit
namespace Go.Proofs.YtcldomgdkhenpaaGreat
section
variable {a b key value:Key} {kv:Value} {c d:Nat} {w:World}
theorem aX5 (ha:0<a.size) (hb:0<b.size) (h:head a=head b):0<Twig.com a.data.toList b.data.toList:=by
 unfold head at h;have h1:=fA a;have h2:=fA b;cases ea:a.data.toList with
 | nil=>rw [ea] at h1;simp at h1;omega
 | cons x l=>
  cases eb:b.data.toList with
  | nil=>rw [eb] at h2;simp at h2;omega
  | cons y m=>
   rw [ea,eb] at h;have:x=y:=UInt8.toNat_inj.1 (by simpa using h);subst this;unfold Twig.com;simp
theorem aI2:Twig.com a.data.toList b.data.toList≤a.size∧Twig.com a.data.toList b.data.toList≤b.size:=by
 have h1:=Twig.FT a.data.toList b.data.toList;have h2:=Twig.UO a.data.toList b.data.toList;rw [fA] at h1 h2;exact⟨h1,h2⟩
theorem a0M {k:Nat} (hk:k=Twig.com a.data.toList b.data.toList):a.extract 0 k=b.extract 0 k:=by
 apply nR;rw [qA,qA,List.drop_zero,List.drop_zero,Nat.sub_zero];apply List.ext_getElem?;intro j;rw [List.getElem?_take,List.getElem?_take];by_cases h:j<k
 ·rw [if_pos h,if_pos h];exact (Twig.aG8 _ _ _ (by rw [← hk];exact h)).2.2
 rw [if_neg h,if_neg h]
theorem VV (a:Key) (i j:Nat) (h:i≤j) (hj:j≤a.size):(a.extract i j).size=j-i:=by
 rw [← fA,qA,ze,zg,fA];omega
theorem a0N {w':World} (h:Rd w kv 0 []):Rd w' kv 0 []:=by
 rcases h with ⟨a,cap,rfl,h1,_,_⟩ | ⟨g,off,cap,rfl,_,_,h,_⟩
 ·exact .inl ⟨a,cap,rfl,h1,rfl,rfl⟩
 omega
theorem a0O (h:w.heap[c]?=yP (yL #[yA key,yD true,yA value,kv,yB yO] 345 (0,0))) (hr:Rd w kv 0 []) (hz:z0 kv):RR w d c key (aY (yj,value)):=
 .mk d c key true value kv [] _ ⟨⟨hz,_,_,h⟩,aG h rfl,aG h rfl,aG h rfl,aG h rfl,_,aG h rfl⟩ hr (fun e=>by cases e) (by simp) List.Pairwise.nil (by simp) (aXA value) (by simp)
theorem QG {l1 l3:List Kd} {q q':Kd} (h:(l1++q::l3).Pairwise fun p q=>head p.lab<head q.lab) (e:head q'.lab=head q.lab):(l1++q'::l3).Pairwise fun p q=>head p.lab<head q.lab:=by
 have h4:=List.pairwise_append.1 h;have h5:=yz.1 h4.2.1;refine List.pairwise_append.2 ⟨h4.1,yz.2 ⟨fun p hp=>by rw [e];exact h5.1 p hp,h5.2⟩,fun p hp x hx=>?_⟩;rcases yx.1 hx with rfl | hx
 ·rw [e];exact h4.2.2 p hp q (by simp)
 exact h4.2.2 p hp x (by simp [hx])
theorem tO {P:Kd→Prop} {l1 l3:List Kd} {q q':Kd} (h:∀ x∈l1++q::l3,P x) (hq:P q'):∀ x∈l1++q'::l3,P x:=by
 intro x hx;rcases za.1 hx with hx | hx
 ·exact h x (by simp [hx])
 rcases yx.1 hx with rfl | hx
 ·exact hq
 exact h x (by simp [hx])
theorem aSH (l1 l2:List Kd) (b:Nat):((l1++l2).map fun q=>ptr q.b).take (l1.length*1)++([ptr b]++((l1++l2).map fun q=>ptr q.b).drop (l1.length*1))=(l1++⟨b,yj,none_⟩::l2).map fun q=>ptr q.b:=by
 rw [Nat.mul_one,List.map_append,List.map_append,List.take_left' (by simp),List.drop_left' (by simp)];rfl
theorem Q1 (l1 l3:List Kd) (q:Kd) (b:Nat):((l1++q::l3).map fun q=>ptr q.b).take (l1.length*1)++([ptr b]++((l1++q::l3).map fun q=>ptr q.b).drop ((l1.length+1)*1))=(l1++⟨b,yj,none_⟩::l3).map fun q=>ptr q.b:=by
 rw [Nat.mul_one,Nat.mul_one,List.map_append,List.map_append,List.take_left' (by simp),List.map_cons,List.drop_append,List.drop_eq_nil_of_le (by simp)];simp
theorem LF (l1 l3:List Kd) (b:Nat) (la lb:Key) (fa fb:Mp):(l1++(⟨b,la,fa⟩:Kd)::l3).map (fun q=>ptr q.b)=(l1++(⟨b,lb,fb⟩:Kd)::l3).map fun q=>ptr q.b:=by simp
theorem aPU (value:Key) (n:Nat) (ih:∀ (key:Key) (d b:Nat) (lab:Key) (f:Mp) (w:World),key.size≤n→RR w d b lab f→key.size≤d→d≤1000→Calls yM 227 #[yB (yP ⟨b,0,yO⟩),yB yO,yA key,yA value] w (tY d b lab f key value w))
  (key:Key) (d b:Nat) (lab:Key) (f:Mp) (w:World) (hn:key.size≤n+1) (h:RR w d b lab f) (nB:key.size≤d) (hd:d≤1000) (hne:key≠yj) :
  Calls yM 227 #[yB (yP ⟨b,0,yO⟩),yB yO,yA key,yA value] w (tY d b lab f key value w):=by
 obtain⟨has,val,kv,ks,fH⟩:=h.ri;have HRI:=yN fH;have n4:=yN ih;have zA:0<key.size:=xC.1 hne;have mZ:=KG key zA;have LZ:=KH key;have IV:=RF hne;have HH:=yN (yd mZ hne);have c3:=fH.h0.c3;clear h fH ih mZ hne;go_enter func227,ntmps227;go_wp2_with fail;rw [← HH.o.1];refine (X5 (head key) _ HRI.o LZ).mono ?_;rintro e w' ⟨rfl,l1,l2,rfl,jG,⟨q,l3,rfl,hq,rfl⟩ | ⟨hl2,rfl⟩⟩
 ·have D2:=HRI.o.kid;obtain⟨nk,lT⟩:∃ nk,nk=(l1++q::l3).length:=⟨_,rfl⟩;rw [← lT] at D2;obtain⟨g,off,cap,rfl,c1,c2⟩:=D2;have hlen:nk≤256:=by rw [lT];exact HRI.o.len
  have hi:l1.length<nk:=by rw [lT];simp
  have qR:=yN lT;have hcv:=HRI.o.B5 (q:=q) (by simp);have EG:=HRI.o.h5 q (by simp);have xM:=HRI.o.h3 q (by simp);have SM:=HRI.o.h7 q (by simp);have HQ:=yN (yd hq (yd hcv EG));clear jG hcv EG lT;obtain⟨k,hk⟩:∃ k,k=Twig.com key.data.toList q.lab.data.toList:=⟨_,rfl⟩;have aS:0<k:=by rw [hk];exact aX5 zA xM hq.symm
  have hk2:k≤key.size:=by rw [hk];exact aI2.1
  have hk3:k≤q.lab.size:=by rw [hk];exact aI2.2
  have HKC:=yN hk;have hcm:=Twig.aEM key q.lab w (by omega) (by omega);rw [← hk] at hcm;have HCM:=yN hcm;clear hk hq hcm;go_wp2_with fail;refine HCM.o.mono ?_;rintro e w' ⟨rfl,nq,rfl⟩;have aJ:Hid (Kept w (w.drewN nq)):=yN (iC (yk _ _) nq);have c2':(w.drewN nq).cell? ⟨q.b,0,yO⟩=yP (yA q.lab):=c2;have hkey:key=q.lab.extract 0 k++key.extract k key.size:=by rw [← a0M HKC.o];exact (GS key k hk2).symm
  have hrs:(key.extract k key.size).size=key.size-k:=VV key k key.size hk2 (ye _);have bU:(q.lab.extract 0 k).size=k:=by rw [VV q.lab 0 k (yg _) hk3];omega
  have hlh:head (q.lab.extract 0 k)=head q.lab:=by
   have:=kG (a:=q.lab.extract 0 k) (q.lab.extract k q.lab.size) (by omega);rw [GS q.lab k hk3] at this;exact this.symm
  have HE:=yN (yd hkey (yd hrs (yd bU hlh)));have hb1:(0:Int)≤(k:Int):=by omega
  have hb2:(k:Int)≤(key.size:Int):=by omega
  clear c1 c2 c3 hkey hrs bU hlh HCM;generalize w.drewN nq=w1 at *;by_cases hsp:k<q.lab.size
  ·have a7H:(k:Int)<(q.lab.size:Int):=by omega
   go_wp2_with fail;refine (aUR (d-q.lab.size) q.b k q.lab q.f _ (HQ.o.2.2.kept aJ.o) aS hsp).mono ?_;rintro e w2 ⟨b1,rfl,fM,hk⟩;rw [show q.lab.size-k+(d-q.lab.size)=d-k by omega] at fM;have hcv:gC ⟨b1,q.lab.extract 0 k,behind (q.lab.extract k q.lab.size) q.f⟩ f:=gC.split (b:=q.b) (c:=b1) (l1:=q.lab.extract 0 k) (l2:=q.lab.extract k q.lab.size) (g:=q.f) (by rw [GS q.lab k hk3];exact HQ.o.2.1) (by rw [HE.o.2.2.1];exact aS);have HR:=yN (yd fM hcv);have aH:=yN (aB aJ.o hk);clear fM hcv hk aJ c2';go_wp2_with fail;refine (n4.o (key.extract k key.size) (d-k) b1 (q.lab.extract 0 k) (behind (q.lab.extract k q.lab.size) q.f) _ (by rw [HE.o.2.1];omega) HR.o.1 (by rw [HE.o.2.1];omega) (by omega)).mono ?_;rintro e w3 ⟨bl,ad,ch,rfl,fM,hk,hch⟩;have HB:=yN fM;have nC:=yN hch;have aL:=yN (aB aH.o hk);clear fM hk hch aH;cases ch with
   | false=>
    have vS:f key=yP value:=by
     have:=HR.o.2.1 (key.extract k key.size);have e1:f (q.lab.extract 0 k++key.extract k key.size)=(behind (q.lab.extract k q.lab.size) q.f) (key.extract k key.size):=this;rw [← HE.o.1] at e1;rw [e1];exact (nC.o rfl).2
    have HV:=yN vS;clear nC vS;go_wp2_with fail;go_ret3;unfold tY;refine⟨b,_,_,rfl,?_,aL.o,fun _=>⟨rfl,HV.o⟩⟩;rw [qG _ _ _ HV.o];exact (HRI.o.kept aL.o).rr
   | true=>
    clear nC;go_wp2_with fail;refine (yV (HRI.o.kept aL.o)).mono ?_;rintro e w4 ⟨c,bX,rfl,ho,hk⟩;rw [← qR.o] at ho;have L0:=yN hk;have aR:=yN (aB aL.o hk);obtain⟨g2,lL,rfl⟩:∃ g2 lL,bX=yC (yP ⟨g2,0,yO⟩) nk lL:=by
     rcases ho.2.2.2 with ⟨_,e⟩ | ⟨g2,lL,cur,e,_⟩
     ·omega
     exact⟨g2,lL,e⟩
    have HO:=yN ho;have d3:=ho.nr.c3;have e4:w4.cell? ⟨g2,l1.length,yO⟩=yP (yB (yP ⟨q.b,0,yO⟩)):=gU ho.2.2 (by simp;rfl);have f4:w4.frozen? ⟨g2,l1.length,yO⟩=false:=let ⟨_,hh⟩:=dX ho.2.2 rfl;aU hh;have DY:(l1.length:Int)<(nk:Int):=by omega
    clear ho hk;go_wp2_with fail;go_ret3;unfold tY;have hrow:=yR (i:=l1.length) HO.o.2.2 hi (ys:=[ptr bl]) rfl;rw [Q1,show l1.length*1=l1.length from Nat.mul_one _] at hrow;have hN:=HO.o.row (eU g2 [ptr bl] l1.length w4) hrow;have L1:Kept w3 (w4.setCells g2 l1.length [ptr bl]):=yn L0.o hN.2;have bQ:Kept w (w4.setCells g2 l1.length [ptr bl]):=aB aL.o L1;have dU:=hN.1;rw [LF l1 l3 bl yj (q.lab.extract 0 k) none_ (upd (behind (q.lab.extract k q.lab.size) q.f) (key.extract k key.size) (yP value)),show nk=(l1++(⟨bl,q.lab.extract 0 k,upd (behind (q.lab.extract k q.lab.size) q.f) (key.extract k key.size) (yP value)⟩:Kd)::l3).length from by rw [qR.o];simp] at dU;have rT:dD (if has then yP val else yO) (l1++(⟨bl,q.lab.extract 0 k,upd (behind (q.lab.extract k q.lab.size) q.f) (key.extract k key.size) (yP value)⟩:Kd)::l3) (upd f key (yP value)):=by
     refine HRI.o.h6.turn HRI.o.h3 HRI.o.h4 HE.o.2.2.2 ?_ (kH _ _ (fun e=>HH.o.2 e.symm)) (fun x hx0 hx1=>kH _ _ (fun e=>hx1 (by rw [e];exact HQ.o.1.symm)));have:=HR.o.2.sub bl (key.extract k key.size) (yP value);have e1:gC ⟨bl,q.lab.extract 0 k,upd (behind (q.lab.extract k q.lab.size) q.f) (key.extract k key.size) (yP value)⟩ (upd f (q.lab.extract 0 k++key.extract k key.size) (yP value)):=this;rw [← HE.o.1] at e1;exact e1
    refine⟨c,_,_,rfl,?_,bQ,fun e=>by cases e⟩
    refine .mk d c lab has val _ _ _ dU.nr dU.rd HRI.o.h2 (tO HRI.o.h3 (by show 0<(q.lab.extract 0 k).size;rw [HE.o.2.2.1];exact aS)) (QG HRI.o.h4 HE.o.2.2.2)
     (tO (fun x hx=>(HRI.o.h5 x hx).kept bQ) (by show RR _ (d-(q.lab.extract 0 k).size) bl _ _;rw [HE.o.2.2.1];exact HB.o.kept L1)) rT (tO HRI.o.h7 (by show (q.lab.extract 0 k).size≤d;rw [HE.o.2.2.1];omega))
  have a7H:¬ (k:Int)<(q.lab.size:Int):=by omega
  go_wp2_with fail;have gS:k=q.lab.size:=by omega
  have pL:q.lab.extract 0 k=q.lab:=by
   have:=GS q.lab k hk3;have e0:q.lab.extract k q.lab.size=yj:=yT (by rw [VV q.lab k q.lab.size hk3 (ye _)];omega);rw [e0,tR] at this;exact this
  have fM:RR w1 (d-k) q.b (q.lab.extract 0 k) q.f:=by rw [pL,gS];exact HQ.o.2.2.kept aJ.o
  have hcv:gC ⟨q.b,q.lab.extract 0 k,q.f⟩ f:=by rw [pL];exact HQ.o.2.1
  have HR:=yN (yd fM hcv);have aH:=aJ;clear fM hcv aJ c2' gS pL;refine (n4.o (key.extract k key.size) (d-k) q.b (q.lab.extract 0 k) q.f _ (by rw [HE.o.2.1];omega) HR.o.1 (by rw [HE.o.2.1];omega) (by omega)).mono ?_;rintro e w3 ⟨bl,ad,ch,rfl,fM,hk,hch⟩;have HB:=yN fM;have nC:=yN hch;have aL:=yN (aB aH.o hk);clear fM hk hch aH;cases ch with
  | false=>
   have vS:f key=yP value:=by
    have:=HR.o.2.1 (key.extract k key.size);have e1:f (q.lab.extract 0 k++key.extract k key.size)=q.f (key.extract k key.size):=this;rw [← HE.o.1] at e1;rw [e1];exact (nC.o rfl).2
   have HV:=yN vS;clear nC vS;go_wp2_with fail;go_ret3;unfold tY;refine⟨b,_,_,rfl,?_,aL.o,fun _=>⟨rfl,HV.o⟩⟩;rw [qG _ _ _ HV.o];exact (HRI.o.kept aL.o).rr
  | true=>
   clear nC;go_wp2_with fail;refine (yV (HRI.o.kept aL.o)).mono ?_;rintro e w4 ⟨c,bX,rfl,ho,hk⟩;rw [← qR.o] at ho;have L0:=yN hk;have aR:=yN (aB aL.o hk);obtain⟨g2,lL,rfl⟩:∃ g2 lL,bX=yC (yP ⟨g2,0,yO⟩) nk lL:=by
    rcases ho.2.2.2 with ⟨_,e⟩ | ⟨g2,lL,cur,e,_⟩
    ·omega
    exact⟨g2,lL,e⟩
   have HO:=yN ho;have d3:=ho.nr.c3;have e4:w4.cell? ⟨g2,l1.length,yO⟩=yP (yB (yP ⟨q.b,0,yO⟩)):=gU ho.2.2 (by simp;rfl);have f4:w4.frozen? ⟨g2,l1.length,yO⟩=false:=let ⟨_,hh⟩:=dX ho.2.2 rfl;aU hh;have DY:(l1.length:Int)<(nk:Int):=by omega
   clear ho hk;go_wp2_with fail;go_ret3;unfold tY;have hrow:=yR (i:=l1.length) HO.o.2.2 hi (ys:=[ptr bl]) rfl;rw [Q1,show l1.length*1=l1.length from Nat.mul_one _] at hrow;have hN:=HO.o.row (eU g2 [ptr bl] l1.length w4) hrow;have L1:Kept w3 (w4.setCells g2 l1.length [ptr bl]):=yn L0.o hN.2;have bQ:Kept w (w4.setCells g2 l1.length [ptr bl]):=aB aL.o L1;have dU:=hN.1;rw [LF l1 l3 bl yj (q.lab.extract 0 k) none_ (upd q.f (key.extract k key.size) (yP value)),show nk=(l1++(⟨bl,q.lab.extract 0 k,upd q.f (key.extract k key.size) (yP value)⟩:Kd)::l3).length from by rw [qR.o];simp] at dU;have rT:dD (if has then yP val else yO) (l1++(⟨bl,q.lab.extract 0 k,upd q.f (key.extract k key.size) (yP value)⟩:Kd)::l3) (upd f key (yP value)):=by
    refine HRI.o.h6.turn HRI.o.h3 HRI.o.h4 HE.o.2.2.2 ?_ (kH _ _ (fun e=>HH.o.2 e.symm)) (fun x hx0 hx1=>kH _ _ (fun e=>hx1 (by rw [e];exact HQ.o.1.symm)));have:=HR.o.2.sub bl (key.extract k key.size) (yP value);have e1:gC ⟨bl,q.lab.extract 0 k,upd q.f (key.extract k key.size) (yP value)⟩ (upd f (q.lab.extract 0 k++key.extract k key.size) (yP value)):=this;rw [← HE.o.1] at e1;exact e1
   refine⟨c,_,_,rfl,?_,bQ,fun e=>by cases e⟩
   refine .mk d c lab has val _ _ _ dU.nr dU.rd HRI.o.h2 (tO HRI.o.h3 (by show 0<(q.lab.extract 0 k).size;rw [HE.o.2.2.1];exact aS)) (QG HRI.o.h4 HE.o.2.2.2)
    (tO (fun x hx=>(HRI.o.h5 x hx).kept bQ) (by show RR _ (d-(q.lab.extract 0 k).size) bl _ _;rw [HE.o.2.2.1];exact HB.o.kept L1)) rT (tO HRI.o.h7 (by show (q.lab.extract 0 k).size≤d;rw [HE.o.2.2.1];omega))
 have HL:=yN (yd jG hl2);clear jG hl2;go_wp2_with fail;refine (yV HRI.o).mono ?_;rintro e w1 ⟨c,bX,rfl,ho,hk⟩;obtain⟨nk,lT⟩:∃ nk,nk=(l1++l2).length:=⟨_,rfl⟩;rw [← lT] at ho;have hlen:nk≤256:=by rw [lT];exact HRI.o.len
 have hi:l1.length≤nk:=by rw [lT];simp
 have qR:=yN lT;clear lT;have HO:=yN ho;have aJ:=yN hk;obtain⟨a,cap,rfl⟩:=bW ho.2.2;have d3:=ho.nr.c3;clear ho hk c3;go_wp2_with fail;have aP:=yN (dY aJ.o);have bZ:Hid (OR w.heap.size w1.drew c lab has val (yC a nk cap) nk ((l1++l2).map fun q=>ptr q.b)):=yN (HO.o);refine cP (fun W:World=>W.cell? ⟨c,3,yO⟩=yP (yC a nk cap)) 14 15 d3 fun HS=>?_;clear d3 aJ HO;generalize w1.drew=wd at *;refine tM 0 HS ?_;refine tM 1 HS ?_;refine tM 2 HS ?_;refine tM 3 HS ?_;refine lM 4 HS ?_;refine tM 5 HS ?_;refine tM 6 HS ?_;refine tM 7 HS ?_;go_frame;refine tM 8 HS ?_;go_frame;refine oM 9 fun K hK=>?_;go_simp;refine (aUP key value _).mono ?_;rintro e we ⟨lf,lkv,rfl,ho,hk⟩;have aF:Hid ((fun W:World=>W.cell? ⟨c,3,yO⟩=yP (yC a nk cap)) we):=yN (hk.cell HS.o);have HLF:=yN ho;have HOe:=yN (bZ.o.kept hk);have lZ:=yN (aB aP.o hk);have fW:=bZ.o.lt;have hlw:=ho.2.1;refine hK _ _ (.inr aF.o) ?_;clear hK K HS ho hk bZ aP;have HS:=aF;clear aF;refine oM 10 fun K hK=>?_;go_simp;have aA:=aZ we (yL #[yB (yP ⟨lf,0,yO⟩)] 177);have HT:=yN (bM we (yL #[yB (yP ⟨lf,0,yO⟩)] 177));have iM:=KT HOe.o.2.2 (ye we.heap.size);have L3:=yN (HLF.o.kept aA);have IY:=yN (HOe.o.kept aA);have fO:=yN (aB lZ.o aA);have aF:=yN (aA.cell HS.o);refine hK _ _ (.inr aF.o) ?_;clear hK K HS aA HLF HOe lZ;have HS:=aF;clear aF;generalize we.alloc _=wf at *;generalize we.heap.size=vb at *;refine oM 11 fun K hK=>?_;go_simp;refine (aXR w.heap.size _ _ vb _ _ [ptr lf] 177 _ IY.o.2.2 fO.o.size hi (by omega) rfl HT.o iM (by intro u hu;simp at hu;subst hu;rfl) (VU _)).mono ?_;rintro e wg ⟨v',rfl,ho,hg⟩;have kW:=fun e=>IY.o.ne (Eq.symm e);have aF:=yN (eG hg HS.o kW);refine hK _ _ (.inr aF.o) ?_;have hN:=IY.o.kids hg ho;have hb3:=(hg.block c IY.o.lt kW).trans IY.o.1;have e3:wg.cell? ⟨c,3,yO⟩=yP (yC a nk cap):=aG hb3 rfl;have f3:wg.frozen? ⟨c,3,yO⟩=false:=aU hb3;obtain⟨av,cv,rfl⟩:=bW ho;have HN:=yN hN.1;have HKh:=yN (yn fO.o hN.2);clear hK K HS ho hN hb3 kW;refine tM 12 aF ?_;refine tM 13 aF ?_;go_frame;refine oM 14 fun K hK=>?_;go_simp;refine hK _ _ aX ?_;clear hK K e3 f3 aF;refine cM ?_;have hlf:=(hg.block lf L3.o.lt (fun e=>fR IY.o.2.2 L3.o.1 (by decide) e.symm)).trans L3.o.1;have a7I:=(yl wg ⟨c,3,yO⟩ (yC av (nk+1) cv) lf (by show lf≠c;omega)).trans hlf;have a7J:=yN (a0O (d:=d-key.size) a7I (a0N L3.o.rd) L3.o.nr.z.1);clear hlf a7I;generalize wg.setCell _ _=wh at *;go_wp2;go_ret3;unfold tY;refine⟨c,_,_,rfl,?_,HKh.o,fun e=>by cases e⟩;have hc:=HN.o;rw [aSH,LF l1 l2 lf yj key none_ (aY (yj,value))] at hc;have haw:=HRI.o.away HH.o.2 HL.o.1 HL.o.2;have hz:∀ k,k≠yj→head k=head key→f k=yO:=fun k bF aS=>HRI.o.h6.VA HRI.o.h3 bF (fun q hq=>by rw [aS];exact haw q hq);have aJO:nk+1=(l1++(⟨lf,key,aY (yj,value)⟩:Kd)::l2).length:=by rw [qR.o];simp;omega
 rw [aJO] at hc;refine .mk d c lab has val _ (l1++⟨lf,key,aY (yj,value)⟩::l2) _ hc.nr hc.rd HRI.o.h2 ?_ ?_ ?_ ?_ ?_
 ·intro q hq;rcases za.1 hq with hq | hq
  ·exact HRI.o.h3 q (by simp [hq])
  rcases yx.1 hq with rfl | hq
  ·exact zA
  exact HRI.o.h3 q (by simp [hq])
 ·have h4:=List.pairwise_append.1 HRI.o.h4;refine List.pairwise_append.2 ⟨h4.1,yz.2 ⟨fun q hq=>HL.o.2 q hq,h4.2.1⟩,fun p hp q hq=>?_⟩;rcases yx.1 hq with rfl | hq
  ·exact HL.o.1 p hp
  exact h4.2.2 p hp q hq
 ·intro q hq;rcases za.1 hq with hq | hq
  ·exact (HRI.o.h5 q (by simp [hq])).kept HKh.o
  rcases yx.1 hq with rfl | hq
  ·exact a7J.o
  exact (HRI.o.h5 q (by simp [hq])).kept HKh.o
 ·exact HRI.o.h6.come HRI.o.h3 HRI.o.h4 (q':=⟨lf,key,aY (yj,value)⟩) haw (aW9 lf key value f zA hz) (kH _ _ (fun e=>HH.o.2 e.symm)) (fun k bF aS=>kH _ _ (fun e=>aS (by rw [e])))
 intro q hq;rcases za.1 hq with hq | hq
 ·exact HRI.o.h7 q (by simp [hq])
 rcases yx.1 hq with rfl | hq
 ·exact nB
 exact HRI.o.h7 q (by simp [hq])
theorem aFZ (value:Key):∀ (n:Nat) (key:Key) (d b:Nat) (lab:Key) (f:Mp) (w:World),key.size≤n→RR w d b lab f→key.size≤d→d≤1000→Calls yM 227 #[yB (yP ⟨b,0,yO⟩),yB yO,yA key,yA value] w (tY d b lab f key value w)
 | 0,key,d,b,lab,f,w,hn,h,_,_=>by
  obtain rfl:key=yj:=yT (by omega);exact aEC d b lab value f w h
 | n+1,key,d,b,lab,f,w,hn,h,nB,hd=>by
  by_cases hne:key=yj;·subst hne;exact aEC d b lab value f w h
  exact aPU value n (aFZ value n) key d b lab f w hn h nB hd hne
end
section
def aJP (w0:World) (d b:Nat) (lab:Key) (f:Mp) (w:World) (e:Ending) (w':World):Prop:=
 Kept w w'∧((e = .returned (yB yO)∧f=none_)∨e = .returned (yB (yP ⟨b,0,yO⟩))∨∃ c q G8 G9 SN bX B9,e = .returned (yB (yP ⟨c,0,yO⟩))∧OR w.heap.size w' c (lab++q.lab) G8 G9 bX B9.length (B9.map fun q=>ptr q.b)∧
  RI w0 (d-q.lab.size) q.b q.lab G8 G9 SN B9 q.f∧dD yO [q] f∧0<q.lab.size∧q.lab.size≤d)
theorem aX6 (w0:World) (d b:Nat) (lab:Key) (f:Mp) (w:World) (h:RR w0 d b lab f) (bF:Kept w0 w) (hl:0<lab.size) (hD:d+lab.size≤1000) :
  Calls yM 298 #[yB (yP ⟨b,0,yO⟩),yB yO] w (aJP w0 d b lab f w):=by
 obtain⟨has,val,kv,ks,aKP⟩:=h.ri;have bG:=yN bF;have a7K:=yN aKP;have fH:=aKP.kept bF;have HRI:=yN fH;clear aKP bF;have c0:=fH.h0.c0;have c1:=fH.h0.c1;have c3:=fH.h0.c3;have hlen:=fH.len;obtain⟨a,cap,rfl⟩:=fH.h1.shape;obtain⟨nk,lT⟩:∃ nk,nk=ks.length:=⟨_,rfl⟩;rw [← lT] at c3 hlen;have qR:=yN lT;have a0P:aJP w0 d b lab f w (.returned (yB (yP ⟨b,0,yO⟩))) w:=⟨yk _ _,.inr (.inl rfl)⟩;have HM:=yN a0P;clear h fH lT a0P;cases has with
 | true=>
  go_enter func298,ntmps298;go_wp2;go_ret;exact HM.o
 | false=>
  by_cases h2:2≤nk
  ·have uF:(2:Int)≤(nk:Int):=by omega
   go_enter func298,ntmps298;go_wp2;go_ret;exact HM.o
  have uF:¬ (2:Int)≤(nk:Int):=by omega
  by_cases hz:nk=0
  ·have hf:f=none_:=by
    have e:ks=[]:=List.eq_nil_of_length_eq_zero (by rw [← qR.o,hz]);have h6:=HRI.o.h6;rw [e] at h6;exact aZ5 h6
   have HF:=yN hf;subst hz;clear hf;go_enter func298,ntmps298;go_wp2;go_ret;exact⟨yk _ _,.inl ⟨rfl,HF.o⟩⟩
  have h1:nk=1:=by omega
  subst h1;obtain⟨q,hq⟩:=List.length_eq_one_iff.1 qR.o.symm;subst hq;clear hz h2 uF HM;obtain⟨g,off,cap',e1,c4,c5⟩:=HRI.o.kid (l1:=[]) (l3:=[]);simp only [List.length_nil,Nat.add_zero] at c4;have e1':yC a 1 cap=yC (yP ⟨g,off,yO⟩) 1 cap':=e1;cases e1';have EG:=a7K.o.h5 q (by simp);have xM:=HRI.o.h3 q (by simp);have SM:=HRI.o.h7 q (by simp);obtain⟨G8,G9,SN,B9,aKQ⟩:=EG.ri;have HQ0:=yN aKQ;have HQ:=yN (aKQ.kept bG.o);clear EG aKQ e1;go_enter func298,ntmps298;go_wp2_with fail;refine (yV HQ.o).mono ?_;rintro e w1 ⟨c,bX,rfl,ho,hk⟩;have HO:=yN ho;have aJ:=yN hk;have d0:=hk.cell c0;have d1:=ho.nr.c0;clear ho hk c0 c1 c3 c4 c5;go_wp2_with fail;have HS:Hid ((fun W:World=>W.cell? ⟨b,0,yO⟩=yP (yA lab)∧W.cell? ⟨c,0,yO⟩=yP (yA q.lab)) w1.drew):=yN (⟨d0,d1⟩);have aP:Hid (Kept w w1.drew):=yN (ym aJ.o);have bZ:Hid (OR w.heap.size w1.drew c q.lab G8 G9 bX B9.length (B9.map fun q=>ptr q.b)):=yN (HO.o);clear d0 d1 aJ HO;refine IM (fun W:World=>W.cell? ⟨b,0,yO⟩=yP (yA lab)∧W.cell? ⟨c,0,yO⟩=yP (yA q.lab)) 9 12 ?_;generalize w1.drew=wd at *;refine tM 0 HS ?_;go_frame;refine tM 1 HS ?_;go_frame;refine tM 2 HS ?_;go_frame;refine tM 3 HS ?_;go_frame;refine lM 4 HS ?_;go_frame;refine tM 5 HS ?_;go_frame;refine tM 6 HS ?_;go_frame;refine tM 7 HS ?_;go_frame;refine lM 8 HS ?_;go_frame;have bG2:¬ 9223372036854775807<lab.size+q.lab.size:=by omega
  refine oM 9 fun K hK=>?_;go_simp;refine hK _ _ (.inl (by kernel_rfl)) ?_;clear hK K HS;refine oM 10 fun K hK=>?_;go_simp;refine (QE _ c _ (lab++q.lab) _ _ _ _ _ _ bZ.o).mono ?_;rintro e w2 ⟨rfl,ho,hk⟩;refine hK _ _ (.inl (by kernel_rfl)) ?_;have dZ:=yN ho;have aH:=yN (show Kept w w2 from yn aP.o hk);clear hK K ho hk bZ aP;refine oM 11 fun K hK=>?_;go_simp;refine hK _ _ (.inl (by kernel_rfl)) ?_;clear hK K;refine uX (by kernel_rfl) ?_ _;go_wp2;go_ret;exact⟨aH.o,.inr (.inr ⟨c,q,G8,G9,SN,bX,B9,rfl,dZ.o,HQ0.o,HRI.o.h6,xM,SM⟩)⟩
end
section
def tT (d b:Nat) (lab:Key) (f:Mp) (key:Key) (w:World) (e:Ending) (w':World):Prop:=
 ∃ c g,e = .returned (.tuple #[yB (yP ⟨c,0,yO⟩),yD g])∧RR w' d c lab (upd f key yO)∧Kept w w'∧(g=false→c=b∧f key=yO)
theorem a0Q (l1 l3:List Kd) (q:Kd):((l1++q::l3).map fun q=>ptr q.b).take (l1.length*1)++((l1++q::l3).map fun q=>ptr q.b).drop ((l1.length+1)*1)=(l1++l3).map fun q=>ptr q.b:=by
 rw [Nat.mul_one,Nat.mul_one,List.map_append,List.take_left' (by simp),List.map_cons,List.drop_append,List.drop_eq_nil_of_le (by simp)];simp
theorem aX7 {l1 l3:List Kd} {q:Kd} (h:(l1++q::l3).Pairwise fun p q=>head p.lab<head q.lab):(l1++l3).Pairwise fun p q=>head p.lab<head q.lab:=by
 have h4:=List.pairwise_append.1 h;exact List.pairwise_append.2 ⟨h4.1,(yz.1 h4.2.1).2,fun p hp x hx=>h4.2.2 p hp x (by simp [hx])⟩
theorem U3 {P:Kd→Prop} {l1 l3:List Kd} {q:Kd} (h:∀ x∈l1++q::l3,P x):∀ x∈l1++l3,P x:=by
 intro x hx;rcases za.1 hx with hx | hx
 ·exact h x (by simp [hx])
 exact h x (by simp [hx])
theorem aD7 (d b:Nat) (lab:Key) (f:Mp) (w:World) (h:RR w d b lab f) :
  Calls yM 231 #[yB (yP ⟨b,0,yO⟩),yB yO,yA yj] w (tT d b lab f yj w):=by
 obtain⟨has,val,kv,ks,fH⟩:=h.ri;have HRI:=yN fH;have c1:=fH.h0.c1;have hown:=fH.h6.1;cases has with
 | false=>
  have HV:=yN (show f yj=yO by simpa using hown);go_enter func231,ntmps231;go_wp2_with fail;go_ret2;unfold tT;refine⟨b,_,rfl,?_,yk _ _,fun _=>⟨rfl,HV.o⟩⟩;rw [qG _ _ _ HV.o];exact HRI.o.rr
 | true=>
  go_enter func231,ntmps231;go_wp2_with fail;refine (yV HRI.o).mono ?_;rintro e w1 ⟨c,bX,rfl,ho,hk⟩;have d1:=ho.nr.c1;have d2:=ho.nr.c2;have f1:=ho.fz 1;have f2:=ho.fz 2;have h1:=ho.aKM false;have h2:=h1.1.aKN yj;have HO:=yN h2.1;have HK:=yN (show Kept w _ from yn hk (yn h1.2 h2.2));go_wp2;go_ret2;unfold tT;refine⟨c,_,rfl,?_,HK.o,fun e=>by cases e⟩;exact .mk d c lab false yj _ ks _ HO.o.nr HO.o.rd (fun _=>rfl) HRI.o.h3 HRI.o.h4 (fun q hq=>(HRI.o.h5 q hq).kept HK.o) (HRI.o.h6.own HRI.o.h3 (LM:=yO)) HRI.o.h7
theorem aPP (n:Nat) (ih:∀ (key:Key) (d b:Nat) (lab:Key) (f:Mp) (w:World),key.size≤n→RR w d b lab f→d≤1000→Calls yM 231 #[yB (yP ⟨b,0,yO⟩),yB yO,yA key] w (tT d b lab f key w))
  (key:Key) (d b:Nat) (lab:Key) (f:Mp) (w:World) (hn:key.size≤n+1) (h:RR w d b lab f) (hd:d≤1000) (hne:key≠yj) :
  Calls yM 231 #[yB (yP ⟨b,0,yO⟩),yB yO,yA key] w (tT d b lab f key w):=by
 obtain⟨has,val,kv,ks,fH⟩:=h.ri;have HRI:=yN fH;have n4:=yN ih;have zA:0<key.size:=xC.1 hne;have mZ:=KG key zA;have LZ:=KH key;have IV:=RF hne;have HH:=yN (yd mZ hne);have c3:=fH.h0.c3;clear h fH ih mZ hne;go_enter func231,ntmps231;go_wp2_with fail;rw [← HH.o.1];refine (X5 (head key) _ HRI.o LZ).mono ?_;rintro e w' ⟨rfl,l1,l2,rfl,jG,⟨q,l3,rfl,hq,rfl⟩ | ⟨hl2,rfl⟩⟩
 ·have D2:=HRI.o.kid;obtain⟨nk,lT⟩:∃ nk,nk=(l1++q::l3).length:=⟨_,rfl⟩;rw [← lT] at D2;obtain⟨g,off,cap,rfl,c1,c2⟩:=D2;have hlen:nk≤256:=by rw [lT];exact HRI.o.len
  have hi:l1.length<nk:=by rw [lT];simp
  have qR:=yN lT;have hcv:=HRI.o.B5 (q:=q) (by simp);have EG:=HRI.o.h5 q (by simp);have xM:=HRI.o.h3 q (by simp);have SM:=HRI.o.h7 q (by simp);have HQ:=yN (yd hq (yd hcv EG));clear jG hcv EG lT hq;cases hb:Twig.pM key q.lab with
  | false=>
   have hj:f key=yO:=by
    cases e:f key with
    | none=>rfl
    | some v=>exact absurd (HQ.o.2.1.2 key v HH.o.2 HQ.o.1.symm e) (aI1 hb)
   have HV:=yN hj;clear hj;go_wp2_with fail;refine (Twig.aIC key q.lab _ hb).mono ?_;rintro e w' ⟨rfl,rfl⟩;clear hb;go_wp2;go_ret2;unfold tT;refine⟨b,_,rfl,?_,yk _ _,fun _=>⟨rfl,HV.o⟩⟩;rw [qG _ _ _ HV.o];exact HRI.o.rr
  | true=>
   have hkey:=WR hb;have hcs:=aHD hb;have hcut:=(Twig.aHC key q.lab w hb).mono (R':=fun e w'=>e = .returned (.tuple #[yA (key.extract q.lab.size key.size),yD true])∧w=w') (fun e w' h=>⟨h.1,h.2.symm⟩);obtain⟨rest,jB⟩:∃ rest,rest=key.extract q.lab.size key.size:=⟨_,rfl⟩;rw [← jB] at hkey hcs hcut;have a7L:=yN hcut;have HE:=yN hkey;clear hkey hb hcut jB;go_wp2_with fail;refine a7L.o.mono ?_;rintro e w' ⟨rfl,rfl⟩;clear a7L;go_wp2_with fail;refine (n4.o rest (d-q.lab.size) q.b q.lab q.f _ (by omega) HQ.o.2.2 (by omega)).mono ?_;rintro e w1 ⟨bl,gn,rfl,fM,hk,hch⟩;have HB:=yN fM;have nC:=yN hch;have aJ:=yN hk;clear fM hk hch c1 c2 c3;cases gn with
   | false=>
    have hj:f key=yO:=by
     rw [HE.o];exact (HQ.o.2.1.1 rest).trans (nC.o rfl).2
    have HV:=yN hj;clear nC hj;go_wp2_with fail;go_ret2;unfold tT;refine⟨b,_,rfl,?_,aJ.o,fun _=>⟨rfl,HV.o⟩⟩;rw [qG _ _ _ HV.o];exact (HRI.o.kept aJ.o).rr
   | true=>
    clear nC;go_wp2_with fail;refine (yV (HRI.o.kept aJ.o)).mono ?_;rintro e w2 ⟨c,bX,rfl,ho,hk⟩;rw [← qR.o] at ho;obtain⟨g2,lL,rfl⟩:∃ g2 lL,bX=yC (yP ⟨g2,0,yO⟩) nk lL:=by
     rcases ho.2.2.2 with ⟨_,e⟩ | ⟨g2,lL,cur,e,_⟩
     ·omega
     exact⟨g2,lL,e⟩
    have HO:=yN ho;have aH:=yN hk;clear ho hk;go_wp2_with fail;refine (aX6 w1 (d-q.lab.size) bl q.lab _ _ HB.o aH.o xM (by omega)).mono ?_;have a7M:gC ⟨bl,q.lab,upd q.f rest yO⟩ (upd f key yO):=by
     have:=HQ.o.2.1.sub bl rest yO;rw [← HE.o] at this;exact this
    have R4:=yN a7M;clear a7M;rintro e w3 ⟨hk,⟨rfl,hz⟩ | rfl | ⟨c2,q2,G8,G9,SN,vP,B9,rfl,cI,a7N,a5C,hl2,iO⟩⟩
    ·have HZ:=yN hz;have aL:=yN hk;have fX:=yN (HO.o.kept hk);clear hk hz;obtain⟨m,rfl⟩:∃ m,nk=m+1:=⟨nk-1,by omega⟩;have d3:=fX.o.nr.c3;have hw:wrap64 ((l1.length:Int)+1)=(l1.length:Int)+1:=by unfold wrap64;omega
     have hw':yH.wrap ((l1.length:Int)+1)=(l1.length:Int)+1:=by rw [zk];omega
     go_wp2_with fail;refine (aXU w1.heap.size m l1.length _ _ _ fX.o.2.2 (by omega) (by omega) (VU _)).mono ?_;rintro e w4 ⟨v',rfl,iM,ho,hg⟩;have kW:=fun e=>fX.o.ne (Eq.symm e);have hb3:=(hg.block c fX.o.lt kW).trans fX.o.1;have e3:w4.cell? ⟨c,3,yO⟩=yP (yC (yP ⟨g2,0,yO⟩) (m+1) lL):=aG hb3 rfl;have f3:w4.frozen? ⟨c,3,yO⟩=false:=aU hb3;have hN:=fX.o.kids hg ho;obtain⟨av,cv,rfl⟩:=bW ho;have HN:=yN hN;clear ho hg kW hb3 hN iM d3;go_wp2;go_ret2;unfold tT;have hm:m=(l1++l3).length:=by have:=qR.o;simp at this ⊢;omega
     subst hm;have a7O:Kept w1 (w4.setCell ⟨c,3,yO⟩ (yC av (l1++l3).length cv)):=yn (aB aH.o aL.o) HN.o.2;have hk4:=aB aJ.o a7O;have dU:=HN.o.1;rw [a0Q] at dU;refine⟨c,_,rfl,?_,hk4,fun e=>by cases e⟩;have rT:dD (if has then yP val else yO) (l1++l3) (upd f key yO):=by
      refine HRI.o.h6.go HRI.o.h3 HRI.o.h4 (kH _ _ (fun e=>HH.o.2 e.symm)) (fun x hx0 hx1=>?_) (fun x hx0 hx1=>kH _ _ (fun e=>hx1 (by rw [e];exact HQ.o.1.symm)));cases e:upd f key yO x with
      | none=>rfl
      | some v=>
       obtain⟨r,rfl⟩:=R4.o.2 x v hx0 hx1 e;have:=R4.o.1 r;rw [HZ.o] at this;exact absurd (e.symm.trans this) (by simp [none_])
     exact RR.mk d c lab has val _ (l1++l3) (upd f key yO) dU.nr dU.rd HRI.o.h2 (U3 HRI.o.h3) (aX7 HRI.o.h4) (U3 (fun x hx=>(HRI.o.h5 x hx).kept hk4)) rT (U3 HRI.o.h7)
    ·have aL:=yN hk;have fX:=yN (HO.o.kept hk);clear hk;have d3:=fX.o.nr.c3;have e4:w3.cell? ⟨g2,l1.length,yO⟩=yP (yB (yP ⟨q.b,0,yO⟩)):=gU fX.o.2.2 (by simp;rfl);have f4:w3.frozen? ⟨g2,l1.length,yO⟩=false:=let ⟨_,hh⟩:=dX fX.o.2.2 rfl;aU hh;have DY:(l1.length:Int)<(nk:Int):=by omega
     go_wp2_with fail;go_ret2;unfold tT;have hrow:=yR (i:=l1.length) fX.o.2.2 hi (ys:=[ptr bl]) rfl;rw [Q1,show l1.length*1=l1.length from Nat.mul_one _] at hrow;have hN:=fX.o.row (eU g2 [ptr bl] l1.length w3) hrow;have BP:Kept w1 (w3.setCells g2 l1.length [ptr bl]):=yn (aB aH.o aL.o) hN.2;have hk3:Kept w (w3.setCells g2 l1.length [ptr bl]):=aB aJ.o BP;have dU:=hN.1;rw [LF l1 l3 bl yj q.lab none_ (upd q.f rest yO),show nk=(l1++(⟨bl,q.lab,(upd q.f rest yO)⟩:Kd)::l3).length from by rw [qR.o];simp] at dU;have YW:RR (w3.setCells g2 l1.length [ptr bl]) (d-q.lab.size) bl q.lab (upd q.f rest yO):=HB.o.kept BP;have mZ:head q.lab=head q.lab:=rfl;have hcv:=R4.o;have EJ:=xM;have hle:=SM;have rT:dD (if has then yP val else yO) (l1++(⟨bl,q.lab,(upd q.f rest yO)⟩:Kd)::l3) (upd f key yO):=
      HRI.o.h6.turn HRI.o.h3 HRI.o.h4 mZ hcv (kH _ _ (fun e=>HH.o.2 e.symm)) (fun x hx0 hx1=>kH _ _ (fun e=>hx1 (by rw [e];exact HQ.o.1.symm)))
     refine⟨c,_,rfl,?_,hk3,fun e=>by cases e⟩
     exact .mk d c lab has val _ _ _ dU.nr dU.rd HRI.o.h2 (tO HRI.o.h3 EJ) (QG HRI.o.h4 mZ)
      (tO (fun x hx=>(HRI.o.h5 x hx).kept hk3) YW) rT (tO HRI.o.h7 hle)
    have aL:=yN hk;have fX:=yN (HO.o.kept hk);have H2:=yN (yd cI (yd a7N a5C));clear hk cI a7N a5C;have d3:=fX.o.nr.c3;have e4:w3.cell? ⟨g2,l1.length,yO⟩=yP (yB (yP ⟨q.b,0,yO⟩)):=gU fX.o.2.2 (by simp;rfl);have f4:w3.frozen? ⟨g2,l1.length,yO⟩=false:=let ⟨_,hh⟩:=dX fX.o.2.2 rfl;aU hh;have DY:(l1.length:Int)<(nk:Int):=by omega
    go_wp2_with fail;go_ret2;unfold tT;have hrow:=yR (i:=l1.length) fX.o.2.2 hi (ys:=[ptr c2]) rfl;rw [Q1,show l1.length*1=l1.length from Nat.mul_one _] at hrow;have hN:=fX.o.row (eU g2 [ptr c2] l1.length w3) hrow;have BP:Kept w1 (w3.setCells g2 l1.length [ptr c2]):=yn (aB aH.o aL.o) hN.2;have hk3:Kept w (w3.setCells g2 l1.length [ptr c2]):=aB aJ.o BP;have dU:=hN.1;rw [LF l1 l3 c2 yj (q.lab++q2.lab) none_ q2.f,show nk=(l1++(⟨c2,(q.lab++q2.lab),q2.f⟩:Kd)::l3).length from by rw [qR.o];simp] at dU;have hg2:g2<w2.heap.size:=by
     obtain⟨cur,hh⟩:=dX HO.o.2.2 rfl;exact (yo.1 hh).1
    have h2c:=H2.o.1.2.1;have hoA:OR w2.heap.size (w3.setCells g2 l1.length [ptr c2]) c2 (q.lab++q2.lab) G8 G9 vP B9.length (B9.map fun q=>ptr q.b):=H2.o.1.aside (by omega) (fun e=>by have:=(H2.o.1.2.2.lt g2 e).1;omega);have hsz:(q.lab++q2.lab).size=q.lab.size+q2.lab.size:=eP _ _;have YW:RR (w3.setCells g2 l1.length [ptr c2]) (d-(q.lab++q2.lab).size) c2 (q.lab++q2.lab) q2.f:=by
     rw [show d-(q.lab++q2.lab).size=d-q.lab.size-q2.lab.size by omega];exact (H2.o.2.1.own BP hoA).rr
    have mZ:head (q.lab++q2.lab)=head q.lab:=kG _ xM;have hcv:gC ⟨c2,q.lab++q2.lab,q2.f⟩ (upd f key yO):=gC.one R4.o H2.o.2.2 xM hl2;have EJ:0<(q.lab++q2.lab).size:=by omega
    have hle:(q.lab++q2.lab).size≤d:=by omega
    have rT:dD (if has then yP val else yO) (l1++(⟨c2,(q.lab++q2.lab),q2.f⟩:Kd)::l3) (upd f key yO):=
     HRI.o.h6.turn HRI.o.h3 HRI.o.h4 mZ hcv (kH _ _ (fun e=>HH.o.2 e.symm)) (fun x hx0 hx1=>kH _ _ (fun e=>hx1 (by rw [e];exact HQ.o.1.symm)))
    refine⟨c,_,rfl,?_,hk3,fun e=>by cases e⟩
    exact .mk d c lab has val _ _ _ dU.nr dU.rd HRI.o.h2 (tO HRI.o.h3 EJ) (QG HRI.o.h4 mZ)
     (tO (fun x hx=>(HRI.o.h5 x hx).kept hk3) YW) rT (tO HRI.o.h7 hle)
 have hj:f key=yO:=HRI.o.h6.VA HRI.o.h3 HH.o.2 (HRI.o.away HH.o.2 jG hl2);have HV:=yN hj;clear jG hl2 hj;go_wp2;go_ret2;unfold tT;refine⟨b,_,rfl,?_,yk _ _,fun _=>⟨rfl,HV.o⟩⟩;rw [qG _ _ _ HV.o];exact HRI.o.rr
end
section
theorem aE6:∀ (n:Nat) (key:Key) (d b:Nat) (lab:Key) (f:Mp) (w:World),key.size≤n→RR w d b lab f→d≤1000→Calls yM 231 #[yB (yP ⟨b,0,yO⟩),yB yO,yA key] w (tT d b lab f key w)
 | 0,key,d,b,lab,f,w,hn,h,_=>by
  obtain rfl:key=yj:=yT (by omega);exact aD7 d b lab f w h
 | n+1,key,d,b,lab,f,w,hn,h,hd=>by
  by_cases hne:key=yj;·subst hne;exact aD7 d b lab f w h
  exact aPP n (aE6 n) key d b lab f w hn h hd hne
def a5D (d:Nat) (lab:Key) (f:Mp) (w:World) (e:Ending) (w':World):Prop:=
 ∃ c a,e = .returned (.tuple #[yB (yP ⟨c,0,yO⟩),yD a])∧RR w' d c lab f∧Kept w w'
def a3B (d b:Nat) (lab:Key) (f:Mp) (w:World) (e:Ending) (w':World):Prop:=
 ∃ c a,e = .returned (.tuple #[yB (yP ⟨c,0,yO⟩),yD a])∧RR w' d c lab f∧Kept w w'∧(a=false→c=b)
theorem aUS (d b:Nat) (lab key:Key) (f:Mp) (w:World) (h:RR w d b lab f) (hd:d≤1000) :
  Calls yM 165 #[yB yO,yB (yP ⟨b,0,yO⟩),yA key] w (a3B d b lab (upd f key yO) w):=by
 have H:=yN (aE6 key.size key d b lab f w (ye _) h hd);go_enter func165,ntmps165;go_wp2_with fail;refine (X4 b _).mono ?_;rintro e w' ⟨rfl,rfl⟩;go_wp2_with fail;refine H.o.mono ?_;rintro e w1 ⟨c,g,rfl,fM,hk,hch⟩;have HR:=yN (yd fM (yd hk hch));go_wp2;go_ret2;exact⟨c,g,rfl,HR.o.1,HR.o.2.1,fun e=>(HR.o.2.2 e).1⟩
theorem aX8 (d b:Nat) (lab:Key) (p:Pr) (f:Mp) (w:World) (h:RR w d b lab f) (hp:p.1.size≤d) (hd:d≤1000) :
  Calls yM 163 #[yB yO,yB (yP ⟨b,0,yO⟩),yF #[yA p.1,yA p.2]] w (a5D d lab (upd f p.1 (yP p.2)) w):=by
 have HP:=yN (fun w h=>aFZ p.2 p.1.size p.1 d b lab f w (ye _) h hp hd);have HR:=yN h;go_enter func163,ntmps163;go_wp2_with fail;have hA:=bM w (yL #[yA p.1,yA p.2] 52);have bF:=aZ w (yL #[yA p.1,yA p.2] 52);have HB:=yN hA;have bG:=yN bF;generalize w.alloc _=w0 at *;have aP:=yN (dY bG.o);have HRd:=yN (HR.o.kept (ym bG.o));refine cP (fun W:World=>W.cell? ⟨w.heap.size,0,yO⟩=yP (yA p.1)∧W.cell? ⟨w.heap.size,1,yO⟩=yP (yA p.2)) 14 15 ⟨aG HB.o rfl,aG HB.o rfl⟩ fun HS=>?_;generalize w0.drew=wd at *;refine tM 0 HS ?_;refine tM 2 HS ?_;refine tM 3 HS ?_;refine tM 5 HS ?_;refine lM 4 HS ?_;refine lM 6 HS ?_;go_frame;refine oM 1 fun K hK=>?_;go_simp;refine (X4 b _).mono ?_;rintro e w' ⟨rfl,rfl⟩;refine hK _ _ (.inr HS.o) ?_;refine oM 7 fun K hK=>?_;go_simp;refine (HP.o _ HRd.o).mono ?_;rintro e w1 ⟨c,ad,ch,rfl,fM,hk,hch⟩;have aF:=yN (aD bL hk HS.o);have HT:=yN fM;have aJ:=yN (aB aP.o hk);refine hK _ _ (.inr aF.o) ?_;have HS:=aF;refine tM 8 HS ?_;refine tM 9 HS ?_;refine tM 10 HS ?_;refine tM 11 HS ?_;go_frame;refine oM 12 fun K hK=>?_;go_simp;refine hK _ _ (.inr HS.o) ?_;refine oM 13 fun K hK=>?_;go_simp;refine hK _ _ (.inr HS.o) ?_;refine oM 14 fun K hK=>?_;go_simp;refine hK _ _ aX ?_;refine cM ?_;go_wp2;go_ret2;exact⟨c,ad,rfl,HT.o,aJ.o⟩
end
section
theorem F0 (k v:Key) (w:World) (hk:k.size≤256) (hv:v.size≤4096):Calls yM 162 #[yA k,yA v] w fun e w'=>e = .returned (yE yH 0)∧w=w':=by
 have h1:¬ 256<(k.size:Int):=by omega
 have h2:¬ 4096<(v.size:Int):=by omega
 go_enter func162,ntmps162;go_wp2;go_ret;exact⟨rfl,rfl⟩
def fZ (k:Key) (i:Nat):Nat:=(k.data.toList.getD i 0).toNat
theorem aF0 (k:Key) (i:Nat) (h:i<k.size):fZ k i=(k[i]'h).toNat:=by
 unfold fZ;congr 1;have e:k.data.toList[i]?=yP (k[i]'h):=by
  rw [List.getElem?_eq_getElem (by rw [fA];exact h)];simp;rfl
 rw [List.getD_eq_getElem?_getD,e];rfl
theorem aUT (k:Key) (i:Nat):fZ k i<256:=by unfold fZ;exact UInt8.toNat_lt _
theorem aSI (a r:Key) (h:0<r.size):fZ (a++r) a.size=head r:=by
 unfold fZ head;rw [jX,List.getD_eq_getElem?_getD,List.getElem?_append_right (by rw [fA];exact ye _),fA,Nat.sub_self];have:=fA r;cases e:r.data.toList with
 | nil=>rw [e] at this;simp at this;omega
 | cons x l=>rfl
attribute [local irreducible] fZ
theorem aF1 (fr c fb cb:Nat) (k v:Key) (w:World) (hf:fr<k.size) (hc:c<256) (c1:w.cell? ⟨fb,0,yO⟩=yP (yE yH (fr:Nat))) (c2:w.cell? ⟨cb,0,yO⟩=yP (yE yK (c:Nat))) :
  Calls yM 364 #[yF #[yA k,yA v],yB (yP ⟨fb,0,yO⟩),yB (yP ⟨cb,0,yO⟩)] w fun e w'=>e = .returned (yD (decide (fZ k fr≠c)))∧Kept w w':=by
 obtain⟨aA,hb⟩:=aW w (yL #[yA k,yA v] 52);have d1:=aA.cell c1;have d2:=aA.cell c2;have b0:(w.alloc (yL #[yA k,yA v] 52)).cell? ⟨w.heap.size,0,yO⟩=yP (yA k):=aG hb rfl;have HA:=yN aA;have hx:=aF0 k fr hf;obtain⟨x,SP⟩:∃ x,x=k[fr]'hf:=⟨_,rfl⟩;rw [← SP] at hx;have HX:=yN hx;have SQ:=yN SP;go_enter func364,ntmps364;go_wp2_with fail;generalize w.alloc _=w1 at *;generalize w.heap.size=pb at *;go_wp2_with fail;go_region;go_wp2;go_ret;refine⟨?_,ym HA.o⟩;rw [← SQ.o,HX.o];by_cases e:x.toNat=c;·simp [e]
 simp [e];omega
def aKR (P:Pr→Prop) (l:List Pr) (w:World) (e:Ending) (w':World):Prop:=
 Kept w w'∧((e = .returned (yE yH (-1))∧∀ x∈l,¬ P x)∨∃ k q,l[k]?=yP q∧P q∧(∀ j p,l[j]?=yP p→j<k→¬ P p)∧e = .returned (yE yH (k:Nat)))
theorem aUU (g off n cap fr c fb cb:Nat) (l:List Pr) (w:World) (hn:n=l.length) (j5:n≤1000000) (hl:∀ p∈l,fr<p.1.size) (hc:c<256) (c1:w.cell? ⟨fb,0,yO⟩=yP (yE yH (fr:Nat))) (c2:w.cell? ⟨cb,0,yO⟩=yP (yE yK (c:Nat)))
  (hp:∀ j u,(aK l)[j]?=yP u→w.cell? ⟨g,off+j,yO⟩=yP u) :
  Calls yM 363 #[yC (yP ⟨g,off,yO⟩) n cap,yG (.func 364) #[] #[yB (yP ⟨fb,0,yO⟩),yB (yP ⟨cb,0,yO⟩)]] w
   (aKR (fun p=>fZ p.1 fr≠c) l w):=by
 have hcc:∀ wr,Kept w wr→∀ j q,l[j]?=yP q→wr.cell? ⟨g,off+j*2,yO⟩=yP (yA q.1)∧wr.cell? ⟨g,off+j*2+1,yO⟩=yP (yA q.2):=fun wr hk j q hj=>by
  obtain⟨h1,h2⟩:=JT hj;have e1:=hk.cell (hp _ _ h1);have e2:=hk.cell (hp _ _ h2);rw [show off+2*j=off+j*2 by omega] at e1;rw [show off+(2*j+1)=off+j*2+1 by omega] at e2;exact⟨e1,e2⟩
 have HC:=yN hcc;have HL:=yN hl;have HN:=yN hn;have H1:=yN (yd c1 c2);clear hcc hl hp hn c1 c2;go_enter func363,ntmps363;go_wp2
 go_loopg [8] n (fun kx s8 wr=>∃ i:Nat,s8=yE yH i∧i≤n∧n-i≤kx∧Hid (Kept w wr)∧Hid (∀ j p,l[j]?=yP p→j<i→¬ fZ p.1 fr≠c))
 case atStart=>exact⟨0,rfl,yg _,by omega,yN (yk _ _),yN (fun j p _ h=>absurd h (Nat.not_lt_zero _))⟩
 obtain⟨i,rfl,dI,hm,HK,HB⟩:=hrel;by_cases hlt:i<n
 ·have cD:(i:Int)<(n:Int):=by omega
  have gR:yH.wrap ((i:Int)+1)=((i+1:Nat):Int):=by rw [zk];omega
  obtain⟨q,hq⟩:∃ q,l[i]?=yP q:=⟨l[i]'(by have:=HN.o;omega),List.getElem?_eq_getElem _⟩;obtain⟨e1,e2⟩:=HC.o wr HK.o i q hq;have hqf:=HL.o q (List.mem_of_getElem? hq);have HQ:=yN (yd hq hqf);clear hq hqf;by_cases hx:fZ q.1 fr≠c
  ·go_wp2_with fail;refine (aF1 fr c fb cb q.1 q.2 _ HQ.o.2 hc (HK.o.cell H1.o.1) (HK.o.cell H1.o.2)).mono ?_;rintro e w' ⟨rfl,hk⟩;rw [decide_eq_true hx];have aH:=yN (HK.o.trans hk);have HX:=yN hx;clear hx hk;go_wp2;go_ret;exact⟨aH.o,.inr ⟨i,q,HQ.o.1,HX.o,HB.o,rfl⟩⟩
  go_wp2_with fail;refine (aF1 fr c fb cb q.1 q.2 _ HQ.o.2 hc (HK.o.cell H1.o.1) (HK.o.cell H1.o.2)).mono ?_;rintro e w' ⟨rfl,hk⟩;rw [decide_eq_false hx];have aH:=yN (HK.o.trans hk);have HX:=yN hx;clear hx hk;go_wp2;go_roundg (n-(i+1));case measure=>omega
  refine⟨i+1,by go_num,hlt,ye _,aH,yN fun j p hj vT=>?_⟩;by_cases e:j=i;·subst e;rw [HQ.o.1] at hj;cases hj;exact HX.o
  exact HB.o j p hj (by omega)
 have cD:¬ (i:Int)<(n:Int):=by omega
 go_wp2;go_ret;refine⟨HK.o,.inl ⟨rfl,fun x hx=>?_⟩⟩;obtain⟨j,hj⟩:=List.getElem?_of_mem hx;exact HB.o j x hj (by have:=(List.getElem?_eq_some_iff.1 hj).1;have:=HN.o;omega)
end
section
theorem OR.aft {B:Nat} {w w1:World} {c:Nat} {lab val:Key} {has:Bool} {kv:Value} {nk:Nat} {ks:List Value} (h:OR B w c lab has val kv nk ks) (hg:w.grownBy w1 kv.ownBlock):w1.heap[c]?=yP (yL #[yA lab,yD has,yA val,kv,yB yO] 345 (0,0)):=by
 rw [hg.block c h.lt (fun e=>h.ne e.symm)];exact h.1
theorem C5 (n:Nat) (lab val:Key) (has:Bool) (kv:Value) (bs:List Nat) (w:World) (hn:n=bs.length) (hr:Rd w kv n (bs.map ptr)) (j5:n≤256) (hv:has=false→val=yj) :
  Calls yM 303 #[yA lab,yD has,yA val,kv] w fun e w'=>∃ c bX,e = .returned (yB (yP ⟨c,0,yO⟩))∧OR w.heap.size w' c lab has val bX n (bs.map ptr)∧Kept w w':=by
 obtain⟨i0,bS,hz0,hzs,hzb⟩:=info_parts DM;have HR:=yN hr;have HN:=yN hn;obtain⟨a,cap,rfl⟩:=hr.shape;obtain⟨aA,hb⟩:=aW w (yL #[yA lab,yD has,yA ⟨#[]⟩,yC yO 0 0,yB yO] 345);have hO:OR w.heap.size (w.alloc (yL #[yA lab,yD has,yA ⟨#[]⟩,yC yO 0 0,yB yO] 345)) w.heap.size lab has yj (yC yO 0 0) 0 []:=⟨hb,ye _,World.ownsRow_nil _ _ _ _⟩;have HO:=yN hO;have HA:=yN aA;clear hr hn hb hO aA;cases has with
 | false=>
  obtain rfl:=hv rfl;go_enter func303,ntmps303;go_wp2_with fail;have eE:=HO;have HA1:=HA;clear HO HA;generalize w.alloc _=w1 at *;obtain⟨c,hcc⟩:∃ c,c=w.heap.size:=⟨_,rfl⟩;rw [← hcc];have eE:Hid (OR w.heap.size w1 c lab false yj (yC yO 0 0) 0 []):=yN (by rw [hcc];exact eE.o);clear hcc;go_wp2_with fail
  go_loopg [23] n (fun kx s23 wr=>∃ (i:Nat) (bX:Value),s23=yE yH i∧i≤n∧n-i≤kx∧Hid (OR w.heap.size wr c lab false yj bX i ((bs.take i).map ptr))∧Hid (Kept w wr))
  case atStart=>exact⟨0,yC yO 0 0,rfl,yg _,by omega,yN eE.o,HA1⟩
  clear eE HA1;obtain⟨i,bX,rfl,dI,hm,EK,HK⟩:=hrel;by_cases hlt:i<n
  ·have cD:(i:Int)<(n:Int):=by omega
   have gR:yH.wrap ((i:Int)+1)=((i+1:Nat):Int):=by rw [zk];omega
   obtain⟨b,n9⟩:∃ b,bs[i]?=yP b:=⟨bs[i]'(by have:=HN.o;omega),List.getElem?_eq_getElem _⟩;obtain⟨g,off,rfl,cb⟩:∃ g off,a=yP ⟨g,off,yO⟩∧wr.cell? ⟨g,off+i,yO⟩=yP (yB (yP ⟨b,0,yO⟩)):=by
    rcases HR.o with ⟨a',cap',e,_,e0,_⟩ | ⟨g,off,cap',e,_,_,_,hcs⟩
    ·omega
    cases e;exact⟨g,off,rfl,HK.o.cell (hcs i (ptr b) (by rw [List.getElem?_map,n9];rfl))⟩
   have HB:=yN n9;have c3:=EK.o.nr.c3;clear n9;have aA:Kept wr (wr.alloc (yL #[yB (yP ⟨b,0,yO⟩)] 177)):=(yk _ wr).alloc (ye _) _;have M6:=EK.o.kept aA;have hsz:=HK.o.size;have hZ:w.heap.size≤(wr.alloc (yL #[yB (yP ⟨b,0,yO⟩)] 177)).heap.size:=by simp;omega
   have h1c:∀ u∈[yB (yP ⟨b,0,yO⟩)],u.oneCell'=true:=by intro u hu;simp at hu;subst hu;rfl
   have hmx:i+1≤maxLen:=by unfold maxLen;omega
   have d3:(wr.alloc (yL #[yB (yP ⟨b,0,yO⟩)] 177)).cell? ⟨c,3,yO⟩=yP bX:=M6.nr.c3;have dZ:=yN M6;have HA2:=yN (aB HK.o aA);have iH:=cell_one_new wr (yB (yP ⟨b,0,yO⟩)) 177;clear M6 aA;go_wp2_with (at_builtin;refine wpList_append_own _ rfl _ _ 343 rfl w.heap.size 177 i0 (yB yO) 1 8 underlying343 bS hz0 hzs hzb rfl (by decide) _ _ _ rfl dZ.o.2.2 ⟨wr.heap.size,0,yO⟩ 1 1 [yB (yP ⟨b,0,yO⟩)] rfl rfl iH h1c hmx (by omega) hZ ?_);intro v' wa hown hgrow _;obtain⟨va,vc,rfl⟩:=bW hown;have hc2:=dZ.o.aft hgrow;have e3:wa.cell? ⟨c,3,yO⟩=yP bX:=aG hc2 rfl;have f3:wa.frozen? ⟨c,3,yO⟩=false:=aU hc2;have hN:=dZ.o.kids hgrow hown;have dN:=yN hN.1;have aH:=yN (show Kept w _ from yn HA2.o hN.2);clear hown hgrow hc2 hN dZ HA2 d3 c3 iH h1c hmx hZ;go_wp2;go_roundg (n-(i+1));case measure=>omega
   refine⟨i+1,yC va (i+1) vc,by go_num,hlt,ye _,yN ?_,aH⟩;have e:(bs.take (i+1)).map ptr=(bs.take i).map ptr ++ [ptr b]:=by rw [List.take_add_one,HB.o];simp
   rw [e];have h9:=dN.o;rw [← List.map_take] at h9;exact h9
  have cD:¬ (i:Int)<(n:Int):=by omega
  have G6:i=n:=by omega
  subst G6;go_wp2;go_ret;refine⟨c,rfl,⟨bX,?_⟩,HK.o⟩;have e:bs.take i=bs:=by rw [HN.o,List.take_length]
  have h:=EK.o;rw [e] at h;exact h
 | true=>
  have f2:=HO.o.fz 2;have c2:=HO.o.nr.c2;have HA1:Hid (Kept w (w.alloc (yL #[yA lab,yD true,yA val,yC yO 0 0,yB yO] 345))):=yN (aZ w _);have eE:Hid (OR w.heap.size (w.alloc (yL #[yA lab,yD true,yA val,yC yO 0 0,yB yO] 345)) w.heap.size lab true val (yC yO 0 0) 0 []):=yN ⟨bM w _,ye _,World.ownsRow_nil _ _ _ _⟩;go_enter func303,ntmps303;go_wp2_with fail;clear HO HA f2 c2;obtain⟨c,hcc⟩:∃ c,c=w.heap.size:=⟨_,rfl⟩;generalize w.alloc _=w1 at *;rw [← hcc];have eE:Hid (OR w.heap.size w1 c lab true val (yC yO 0 0) 0 []):=yN (by rw [hcc];exact eE.o);clear hcc;go_wp2_with fail
  go_loopg [23] n (fun kx s23 wr=>∃ (i:Nat) (bX:Value),s23=yE yH i∧i≤n∧n-i≤kx∧Hid (OR w.heap.size wr c lab true val bX i ((bs.take i).map ptr))∧Hid (Kept w wr))
  case atStart=>exact⟨0,yC yO 0 0,rfl,yg _,by omega,yN eE.o,HA1⟩
  clear eE HA1;obtain⟨i,bX,rfl,dI,hm,EK,HK⟩:=hrel;by_cases hlt:i<n
  ·have cD:(i:Int)<(n:Int):=by omega
   have gR:yH.wrap ((i:Int)+1)=((i+1:Nat):Int):=by rw [zk];omega
   obtain⟨b,n9⟩:∃ b,bs[i]?=yP b:=⟨bs[i]'(by have:=HN.o;omega),List.getElem?_eq_getElem _⟩;obtain⟨g,off,rfl,cb⟩:∃ g off,a=yP ⟨g,off,yO⟩∧wr.cell? ⟨g,off+i,yO⟩=yP (yB (yP ⟨b,0,yO⟩)):=by
    rcases HR.o with ⟨a',cap',e,_,e0,_⟩ | ⟨g,off,cap',e,_,_,_,hcs⟩
    ·omega
    cases e;exact⟨g,off,rfl,HK.o.cell (hcs i (ptr b) (by rw [List.getElem?_map,n9];rfl))⟩
   have HB:=yN n9;have c3:=EK.o.nr.c3;clear n9;have aA:=aZ wr (yL #[yB (yP ⟨b,0,yO⟩)] 177);have M6:=EK.o.kept aA;have hsz:=HK.o.size;have hZ:w.heap.size≤(wr.alloc (yL #[yB (yP ⟨b,0,yO⟩)] 177)).heap.size:=by simp;omega
   have h1c:∀ u∈[yB (yP ⟨b,0,yO⟩)],u.oneCell'=true:=by intro u hu;simp at hu;subst hu;rfl
   have hmx:i+1≤maxLen:=by unfold maxLen;omega
   have d3:(wr.alloc (yL #[yB (yP ⟨b,0,yO⟩)] 177)).cell? ⟨c,3,yO⟩=yP bX:=M6.nr.c3;have dZ:=yN M6;have HA2:=yN (aB HK.o aA);have iH:=cell_one_new wr (yB (yP ⟨b,0,yO⟩)) 177;clear M6 aA;go_wp2_with (at_builtin;refine wpList_append_own _ rfl _ _ 343 rfl w.heap.size 177 i0 (yB yO) 1 8 underlying343 bS hz0 hzs hzb rfl (by decide) _ _ _ rfl dZ.o.2.2 ⟨wr.heap.size,0,yO⟩ 1 1 [yB (yP ⟨b,0,yO⟩)] rfl rfl iH h1c hmx (by omega) hZ ?_);intro v' wa hown hgrow _;obtain⟨va,vc,rfl⟩:=bW hown;have hc2:=dZ.o.aft hgrow;have e3:wa.cell? ⟨c,3,yO⟩=yP bX:=aG hc2 rfl;have f3:wa.frozen? ⟨c,3,yO⟩=false:=aU hc2;have hN:=dZ.o.kids hgrow hown;have dN:=yN hN.1;have aH:=yN (show Kept w _ from yn HA2.o hN.2);clear hown hgrow hc2 hN dZ HA2 d3 c3 iH h1c hmx hZ;go_wp2;go_roundg (n-(i+1));case measure=>omega
   refine⟨i+1,yC va (i+1) vc,by go_num,hlt,ye _,yN ?_,aH⟩;have e:(bs.take (i+1)).map ptr=(bs.take i).map ptr ++ [ptr b]:=by rw [List.take_add_one,HB.o];simp
   rw [e];have h9:=dN.o;rw [← List.map_take] at h9;exact h9
  have cD:¬ (i:Int)<(n:Int):=by omega
  have G6:i=n:=by omega
  subst G6;go_wp2;go_ret;refine⟨c,rfl,⟨bX,?_⟩,HK.o⟩;have e:bs.take i=bs:=by rw [HN.o,List.take_length]
  have h:=EK.o;rw [e] at h;exact h
end
section
variable {b i n k d g off cap:Nat} {w w':World} {X Y:Nat→Bool} {v:Value} {p:Addr} {cs:List Value} {val lab ahead a:Key} {l:List Pr}
def bO (X:Nat→Bool) (w:World):World:={ w with heap:=w.heap.mapIdx fun i o=>if X i then o else .deferred yO }
def Sub (w w':World):Prop:=∀ (i:Nat) (cs:Array Value) (t:TypeId) (fr:Nat × Nat),w.heap[i]?=yP (Obj.cells cs t fr)→w'.heap[i]?=yP (Obj.cells cs t fr)
theorem Sub.cell {w w':World} (h:Sub w w') {p:Addr} {v:Value} (hp:w.cell? p=yP v):w'.cell? p=yP v:=by
 unfold World.cell? at hp ⊢;cases e:w.heap[p.block]? with
 | none=>rw [e] at hp;cases hp
 | some o=>
  rw [e] at hp;cases o with
  | cells cs t fr=>rw [h _ _ _ _ e];exact hp
  | _=>cases hp
theorem UZ.sub (h:UZ w b) (hs:Sub w w'):UZ w' b:=let ⟨cs,t,e⟩:=h;⟨cs,t,hs _ _ _ _ e⟩
theorem a0R (hk:Kept w w'):Sub w w':=fun i _ _ _ h=>(hk.block i (yo.1 h).1).trans h
theorem aF2 {cs:Array Value} {t:TypeId} {fr:Nat × Nat} (h:(bO X w).heap[i]?=yP (yL cs t fr)):X i=true∧w.heap[i]?=yP (yL cs t fr):=by
 unfold bO at h;simp only [Array.getElem?_mapIdx] at h;cases e:w.heap[i]? with
 | none=>rw [e] at h;cases h
 | some o=>
  rw [e] at h;simp only [Option.map_some] at h;by_cases hx:X i=true;·rw [if_pos hx] at h;exact⟨hx,h⟩
  rw [if_neg hx] at h;cases h
theorem VG {o:Obj} (hx:X i=true) (h:w.heap[i]?=yP o):(bO X w).heap[i]?=yP o:=by
 unfold bO;simp only [Array.getElem?_mapIdx,h,Option.map_some,if_pos hx]
theorem BG (h:∀ i,X i=true→i<w.heap.size→Y i=true∧w'.heap[i]?=w.heap[i]?):Sub (bO X w) (bO Y w'):=fun i _ _ _ hb=>by
 obtain⟨h1,h2⟩:=aF2 hb;obtain⟨h3,h4⟩:=h i h1 (yo.1 h2).1;exact VG h3 (h4.trans h2)
theorem X6 (h:∀ i,X i=true→i<w.heap.size→w'.heap[i]?=w.heap[i]?):Sub (bO X w) w':=fun i _ _ _ hb=>by
 obtain⟨h1,h2⟩:=aF2 hb;exact (h i h1 (yo.1 h2).1).trans h2
theorem aJQ (h:∀ i,i<w.heap.size→Y i=true∧w'.heap[i]?=w.heap[i]?):Sub w (bO Y w'):=fun i _ _ _ hb=>by
 obtain⟨h3,h4⟩:=h i (yo.1 hb).1;exact VG h3 (h4.trans hb)
theorem GI (h:(bO X w).cell? p=yP v):X p.block=true∧w.cell? p=yP v:=by
 unfold World.cell? bO at h;simp only [Array.getElem?_mapIdx] at h;unfold World.cell?;cases e:w.heap[p.block]? with
 | none=>rw [e] at h;cases h
 | some o=>
  rw [e] at h;simp only [Option.map_some] at h;by_cases hx:X p.block=true;·rw [if_pos hx] at h;exact⟨hx,h⟩
  rw [if_neg hx] at h;cases h
theorem C6 (hx:X p.block=true) (h:w.cell? p=yP v):(bO X w).cell? p=yP v:=by
 unfold World.cell? bO;simp only [Array.getElem?_mapIdx];unfold World.cell? at h;cases e:w.heap[p.block]? with
 | none=>rw [e] at h;cases h
 | some o=>
  rw [e] at h;simp only [Option.map_some,if_pos hx];exact h
theorem BB (X:Nat→Bool) (w:World):Sub (bO X w) w:=X6 fun _ _ _=>rfl
theorem oT (hx:∀ i,X i=true→Y i=true) (hb:∀ i,X i=true→i<w.heap.size→w'.heap[i]?=w.heap[i]?):Sub (bO X w) (bO Y w'):=BG fun i h1 h2=>⟨hx i h1,hb i h1 h2⟩
theorem Sub.trans {a b c:World} (h:Sub a b) (g:Sub b c):Sub a c:=fun i _ _ _ hp=>g _ _ _ _ (h _ _ _ _ hp)
theorem NR.sub {w w':World} {b:Nat} {lab:Key} {has:Bool} {val:Key} {kv:Value} (h:NR w b lab has val kv) (hs:Sub w w'):NR w' b lab has val kv:=
 ⟨⟨h.z.1,h.z.2.sub hs⟩,hs.cell h.c0,hs.cell h.c1,hs.cell h.c2,hs.cell h.c3,let ⟨o,ho⟩:=h.c4;⟨o,hs.cell ho⟩⟩
theorem Rd.sub (h:Rd w v n cs) (hs:Sub w w'):Rd w' v n cs:=by
 rcases h with h | ⟨g,off,cap,h1,h2,h3,h4,h5⟩
 ·exact .inl h
 exact .inr ⟨g,off,cap,h1,h2,h3,h4,fun j u hj=>hs.cell (h5 j u hj)⟩
theorem RR.sub {w w':World} {d b:Nat} {lab:Key} {f:Mp} (h:RR w d b lab f) (hs:Sub w w'):RR w' d b lab f:=by
 induction h with
 | mk d b lab has val kv ks f h0 h1 h2 h3 h4 h5 h6 h7 ih=>exact .mk d b lab has val kv ks f (h0.sub hs) (h1.sub hs) h2 h3 h4 ih h6 h7
theorem XK {B:Nat} {e:TypeId} (h:w.ownsRow B e k v n cs) (hx:∀ i,B≤i→X i=true):Rd (bO X w) v n cs:=by
 rcases dH h with h1 | ⟨g,off,cap,rfl,h2,h3,h4,h5⟩
 ·exact .inl h1
 refine .inr ⟨g,off,cap,rfl,h2,h3,h4,fun j u hj=>C6 (hx _ ?_) (h5 j u hj)⟩;rcases h.2 with ⟨e,_⟩ | ⟨g',cap',cur,e,hb,_⟩
 ·cases e
 cases e;exact hb
theorem a3C {has:Bool} {kv:Value} (h:NR w b lab has val kv) (hx:X b=true):NR (bO X w) b lab has val kv:=
 ⟨⟨h.z.1,let ⟨cs,t,e⟩:=h.z.2;⟨cs,t,VG hx e⟩⟩,C6 hx h.c0,C6 hx h.c1,C6 hx h.c2,C6 hx h.c3,let ⟨o,ho⟩:=h.c4;⟨o,C6 hx ho⟩⟩
def nS (B:Nat):Nat→Bool:=fun i=>decide (B≤i)
def eM (ahead:Key) (l:List Pr):Mp:=fun r=>look l (ahead++r)
def Goes (ahead:Key) (l:List Pr):Prop:=∀ p∈l,∃ r:Key,0<r.size∧p.1=ahead++r
theorem VW (l m:List Pr):look (l++m)=b9 (look l) (look m):=by
 funext k;unfold look b9;rw [List.find?_append];dsimp only;cases l.find? fun p=>decide (p.1=k) <;> rfl
theorem Q2 {k v:Key} (h:look l k=yP v):(k,v)∈l:=by
 unfold look at h;obtain⟨p,hp,rfl⟩:=Option.map_eq_some_iff.1 h;have h1:=List.find?_some hp;have:p.1=k:=by simpa using h1
 subst this;exact List.mem_of_find?_eq_some hp
theorem UQ {k:Key} (h:∀ p∈l,p.1≠k):look l k=yO:=by
 cases e:look l k with
 | none=>rfl
 | some v=>exact absurd rfl (h _ (Q2 e))
structure KK (w:World) (d:Nat) (ahead:Key) (l:List Pr) (ks:List Kd):Prop where
 h3:∀ q∈ks,0<q.lab.size
 h4:ks.Pairwise fun p q=>head p.lab<head q.lab
 h5:∀ q∈ks,RR w (d-q.lab.size) q.b q.lab q.f
 h6:dD yO ks (eM ahead l)
 h7:∀ q∈ks,q.lab.size≤d
theorem a3D (w:World) (d:Nat) (ahead:Key):KK w d ahead [] []:=
 ⟨by simp,List.Pairwise.nil,by simp,⟨rfl,by simp,fun k v _ h=>by cases h⟩,by simp⟩
theorem KK.sub {w w':World} {d:Nat} {ahead:Key} {l:List Pr} {ks:List Kd} (h:KK w d ahead l ks) (hs:Sub w w'):KK w' d ahead l ks:=
 ⟨h.h3,h.h4,fun q hq=>(h.h5 q hq).sub hs,h.h6,h.h7⟩
theorem KK.len {ks:List Kd} (h:KK w d ahead l ks):ks.length≤256:=by
 rcases QS ks (fun q _=>by unfold head;exact UInt8.toNat_lt _) h.h4 0 (fun _ _=>yg _) with h | h
 ·omega
 rw [h];simp
theorem KK.more {pre grp:List Pr} {ks:List Kd} (h:KK w d ahead pre ks) (hg:Goes ahead (pre++grp)) (hr:RR w (d-lab.size) b lab (eM (ahead++lab) grp))
  (hl:0<lab.size) (hd:lab.size≤d) (hb:∀ p∈grp,tV p.1 (ahead++lab)) (hh:∀ q∈ks,head q.lab<head lab):KK w d ahead (pre++grp) (ks ++ [⟨b,lab,eM (ahead++lab) grp⟩]):=by
 refine⟨?_,?_,?_,⟨?_,?_,?_⟩,?_⟩
 ·intro q hq;rcases za.1 hq with hq | hq
  ·exact h.h3 q hq
  rw [List.mem_singleton.1 hq];exact hl
 ·refine List.pairwise_append.2 ⟨h.h4,List.pairwise_singleton _ _,fun p hp q hq=>?_⟩;rw [List.mem_singleton.1 hq];exact hh p hp
 ·intro q hq;rcases za.1 hq with hq | hq
  ·exact h.h5 q hq
  rw [List.mem_singleton.1 hq];exact hr
 ·unfold eM;refine UQ fun p hp e=>?_;obtain⟨r,CA,hr1⟩:=hg p hp;rw [hr1] at e;have:=u9 e;rw [this] at CA;exact absurd CA (by decide)
 ·intro q hq r;unfold eM;rw [VW];rcases za.1 hq with hq | hq
  ·have h1:=h.h6.2.1 q hq r;unfold eM at h1;unfold b9;rw [h1];have h2:look grp (ahead++(q.lab++r))=yO:=UQ fun p hp e=>by
    obtain⟨s,hs⟩:=hb p hp;rw [hs,qE] at e;have e2:=u9 e;have h3:=hh q hq;have h4:=congrArg head e2;rw [kG _ hl,kG _ (h.h3 q hq)] at h4;omega
   rw [h2];cases q.f r <;> rfl
  rw [List.mem_singleton.1 hq];show b9 (look pre) (look grp) (ahead++(lab++r))=look grp (ahead++lab++r);unfold b9;have h2:look pre (ahead++(lab++r))=yO:=by
   cases e:look pre (ahead++(lab++r)) with
   | none=>rfl
   | some v=>
    have hne:lab++r≠yj:=xC.2 (by rw [eP];omega);obtain⟨q',hq',s,hs⟩:=h.h6.2.2 (lab++r) v hne e;have h3:=hh q' hq';have h4:=congrArg head hs;rw [kG _ hl,kG _ (h.h3 q' hq')] at h4;omega
  rw [h2,qE];rfl
 ·intro k v hk hv;unfold eM at hv;rw [VW] at hv;unfold b9 at hv;cases e:look pre (ahead++k) with
  | some u=>
   obtain⟨q,hq,eY⟩:=h.h6.2.2 k u hk e;exact⟨q,List.mem_append_left _ hq,eY⟩
  | none=>
   rw [e] at hv;have hm:=Q2 (show look grp (ahead++k)=yP v from hv);obtain⟨s,hs⟩:=hb _ hm;refine⟨_,List.mem_append_right _ (List.mem_singleton.2 rfl),s,?_⟩;rw [qE] at hs;exact u9 hs
 intro q hq;rcases za.1 hq with hq | hq
 ·exact h.h7 q hq
 rw [List.mem_singleton.1 hq];exact hd
theorem RH {key:Key} {ks:List Kd} (h:dD yO ks (eM key l)) (hk:∀ q∈ks,0<q.lab.size):dD (yP val) ks (eM key ((key,val)::l)):=by
 have e:∀ r,r≠yj→eM key ((key,val)::l) r=eM key l r:=fun r hr=>by
  unfold eM look;rw [List.find?_cons];have:¬ key=key++r:=fun e=>hr (u9 (show key++r=key++yj by rw [tR];exact e.symm));simp [this]
 refine⟨?_,fun q hq r=>?_,fun k v hk hv=>?_⟩
 ·unfold eM look;rw [tR,List.find?_cons];simp
 ·rw [e _ (xC.2 (by rw [eP];have:=hk q hq;omega))];exact h.2.1 q hq r
 rw [e _ hk] at hv;exact h.2.2 k v hk hv
theorem aSJ (x a b c:List UInt8) (h1:Go.Op.bytesLess b (x++a)=false) (h2:Go.Op.bytesLess (x++c) b=false):∃ r,b=x++r:=by
 induction x generalizing b with
 | nil=>exact⟨b,rfl⟩
 | cons y x ih=>
  cases b with
  | nil=>simp [Go.Op.bytesLess] at h1
  | cons z b=>
   rw [Bool.eq_false_iff,Ne,List.cons_append,A9] at h1 h2;have hz:z=y:=by
    have a1:¬ z<y:=fun h=>h1 (.inl h);have a2:¬ y<z:=fun h=>h2 (.inl h);simp only [UInt8.lt_iff_toNat_lt] at a1 a2;exact UInt8.toNat_inj.1 (by omega)
   subst hz;obtain⟨r,hr⟩:=ih b (by rw [Bool.eq_false_iff];exact fun h=>h1 (.inr ⟨rfl,h⟩)) (by rw [Bool.eq_false_iff];exact fun h=>h2 (.inr ⟨rfl,h⟩));exact⟨r,by rw [hr];rfl⟩
theorem aSK {x b c:Key} (h1:lt b (x++a)=false) (h2:lt (x++c) b=false):tV b x:=by
 unfold lt at h1 h2;rw [jX] at h1 h2;obtain⟨r,hr⟩:=aSJ _ _ _ _ h1 h2;refine⟨⟨⟨r⟩⟩,nR ?_⟩;rw [jX,hr]
theorem aX9 (a b:List UInt8):b.take (Twig.com a b)=a.take (Twig.com a b):=by
 induction a generalizing b with
 | nil=>simp [Twig.com]
 | cons x a ih=>
  cases b with
  | nil=>simp [Twig.com]
  | cons y b=>
   unfold Twig.com
   split
   ·next h=>simp [h,ih]
   simp
theorem aYA {b:Key} (ha:0<a.size) (hb:0<b.size) (h:lt a b=true):head a≤head b:=by
 rcases Nat.lt_or_ge (head b) (head a) with h' | h'
 ·have:=aH6 hb ha h';rw [C1 h] at this;cases this
 exact h'
theorem aQ9 (h:bR l) {p q:Pr} (hp:l[0]?=yP p) (hq:l[l.length-1]?=yP q) (t:Nat) (ht:t=Twig.com p.1.data.toList q.1.data.toList):∀ x∈l,tV x.1 (p.1.extract 0 t):=by
 have htp:t≤p.1.size:=by rw [ht,← fA];exact Twig.FT _ _
 have htq:t≤q.1.size:=by rw [ht,← fA];exact Twig.UO _ _
 have e1:p.1=p.1.extract 0 t++p.1.extract t p.1.size:=(GS _ _ htp).symm;have e2:q.1=p.1.extract 0 t++q.1.extract t q.1.size:=by
  have e3:q.1.extract 0 t=p.1.extract 0 t:=by
   apply nR;rw [qA,qA];simp only [List.drop_zero,Nat.sub_zero];rw [ht];exact aX9 _ _
  rw [← e3];exact (GS _ _ htq).symm
 intro x hx;obtain⟨j,hj⟩:=List.getElem?_of_mem hx;obtain⟨nZ,hjx⟩:=List.getElem?_eq_some_iff.1 hj;refine aSK (a:=p.1.extract t p.1.size) (c:=q.1.extract t q.1.size) ?_ ?_
 ·rw [← e1];by_cases e:j=0;·subst e;rw [hj] at hp;cases hp;exact lt_irrefl _
  obtain⟨h0,iW⟩:=List.getElem?_eq_some_iff.1 hp;have:=List.pairwise_iff_getElem.1 h 0 j h0 nZ (by omega);rw [iW,hjx] at this;exact C1 this
 rw [← e2];obtain⟨hl,nD⟩:=List.getElem?_eq_some_iff.1 hq;by_cases e:j=l.length-1;·subst e;rw [hj] at hq;cases hq;exact lt_irrefl _
 have:=List.pairwise_iff_getElem.1 h j (l.length-1) nZ hl (by omega);rw [nD,hjx] at this;exact C1 this
theorem aRA (l:List Pr) (k:Nat):aK (l.take k)=(aK l).take (2*k):=by
 induction l generalizing k with
 | nil=>simp [aK]
 | cons p l ih=>
  cases k with
  | zero=>simp [aK]
  | succ k=>rw [List.take_succ_cons,aK,ih,show 2*(k+1)=2*k+1+1 by omega];rfl
theorem aRB (l:List Pr) (k:Nat):aK (l.drop k)=(aK l).drop (2*k):=by
 induction l generalizing k with
 | nil=>simp [aK]
 | cons p l ih=>
  cases k with
  | zero=>simp
  | succ k=>rw [List.drop_succ_cons,ih,show 2*(k+1)=2*k+1+1 by omega];rfl
theorem aID (hc:∀ j u,(aK l)[j]?=yP u→w.cell? ⟨g,off+j,yO⟩=yP u) (hk:0<k) (pK:k≤cap) (hm:cap≤maxLen):Rd w (yC (yP ⟨g,off,yO⟩) k cap) k (aK (l.take k)):=by
 refine .inr ⟨g,off,cap,rfl,pK,hm,hk,fun j u hj=>hc j u ?_⟩;rw [aRA,List.getElem?_take] at hj
 split at hj
 ·exact hj
 cases hj
theorem RJ (hc:∀ j u,(aK l)[j]?=yP u→w.cell? ⟨g,off+j,yO⟩=yP u) (hn:n=l.length) (hk:k≤n) (kQ:n≤cap) (hm:cap≤maxLen):Rd w (yC (yP ⟨g,off+k*2,yO⟩) (n-k) (cap-k)) (n-k) (aK (l.drop k)):=by
 by_cases h:n-k=0
 ·refine .inl ⟨_,_,by rw [h],by omega,h,?_⟩;have:l.drop k=[]:=List.drop_eq_nil_of_le (by omega);rw [this];rfl
 refine .inr ⟨g,off+k*2,cap-k,rfl,by omega,by omega,by omega,fun j u hj=>?_⟩;rw [aRB,List.getElem?_drop] at hj;have:=hc _ u hj;rw [show off+k*2+j=off+(2*k+j) by omega];exact this
theorem P2 (hn:n=l.length) (hk:k≤n) (kQ:n≤cap) (hm:cap≤maxLen) (hc:cap=k):Rd w (yC (yP ⟨g,off,yO⟩) (n-k) 0) (n-k) (aK (l.drop k)):=by
 refine .inl ⟨_,_,by rw [show n-k=0 by omega],by omega,by omega,?_⟩;have:l.drop k=[]:=List.drop_eq_nil_of_le (by omega);rw [this];rfl
end
section
variable {l:List Pr} {ahead:Key} {d:Nat} {p q:Pr}
theorem A2 {P:Program} {w:World} {o:Oper} {a:Act} {K:Act→World→Prop} {Q:Exit→Act→World→Prop} (s x:Operand) (t:TypeId)
  (ho:o.op = .call { callee:=.builtin .append,args:=#[s,x],argTypes:=#[t,t] })
  (base:Nat) (e:TypeId) (i:TypeInfo) (z:Value) (size bytes:Nat) (ht:P.underlying t=yP (.slice e)) (hi:P.info? e=yP i) (hz:i.zero=yP z)
  (hsize:i.size=size) (hby:i.bytes=bytes) (hzs:z.cells.size=size) (hsz:0<size)
  (v:Value) (n:Nat) (xs:List Value) (hs:a.eval s=v) (hown:w.ownsRow base e size v n xs)
  (ad:Addr) (m c:Nat) (news:List Value) (hx:a.eval x=yC (yP ad) m c) (hl:news.length=m*size) (hnews:∀ j u,news[j]?=yP u→w.cell? (ad.add j)=yP u) (h1:∀ u∈news,u.oneCell'=true)
  (h63:n+m≤maxLen) (hbytes:(n+m)*bytes≤140737488355328) (hbase:base≤w.heap.size)
  (h:∀ v' w',w'.ownsRow base e size v' (n+m) (xs++news)→w.grownBy w' v.ownBlock→(v'.ownBlock=v.ownBlock∨v'.ownBlock=yP w.heap.size)→K (a.put o.dst v') w'):o.wp P a w K Q:=by
 obtain⟨v',w',hr,h2,h3,h4,h5⟩:=run_append_own_at (P:=P) w base t o.type e i z size bytes ht hi hz hsize hby hzs hsz v n xs hown ad m c news hl hnews h1 h63 hbytes hbase;unfold Oper.wp execOp;simp only [ho,resolve,invoke,builtin,Sem.run_bind,Sem.run_pure,Result.andThen_ok,List.map_toArray,List.map_cons,List.map_nil,hs,hx,hr];exact h v' w' h2 h3 h5
structure tZ (d:Nat) (ahead:Key) (l:List Pr):Prop where
 rise:bR l
 goes:Goes ahead l
 far:∀ p∈l,p.1.size≤ahead.size+d
 dep:ahead.size+d≤1000
 len:l.length≤1000
theorem tZ.part {m:List Pr} (h:tZ d ahead l) (hs:m.Sublist l):tZ d ahead m:=
 ⟨List.Pairwise.sublist hs h.rise,fun p hp=>h.goes p (hs.subset hp),fun p hp=>h.far p (hs.subset hp),h.dep,yf hs.length_le h.len⟩
def X7 (d:Nat) (ahead:Key) (l:List Pr) (w:World) (e:Ending) (w':World):Prop:=
 ∃ v ks,e = .returned v∧w'.ownsRow w.heap.size 177 1 v ks.length (ks.map fun q=>ptr q.b)∧KK (bO (nS w.heap.size) w') d ahead l ks∧Kept w w'
def WS (d:Nat) (ahead:Key) (l:List Pr) (w:World) (e:Ending) (w':World):Prop:=
 ∃ b lab,e = .returned (yB (yP ⟨b,0,yO⟩))∧RR (bO (nS w.heap.size) w') (d-lab.size) b lab (eM (ahead++lab) l)∧0<lab.size∧lab.size≤d∧(∀ p∈l,tV p.1 (ahead++lab))∧Kept w w'
def aIE (d:Nat):Prop:=∀ (ahead:Key) (l:List Pr) (v:Value) (n c:Nat) (w:World),tZ d ahead l→Rd w v n (aK l)→n=l.length→0<n→(∀ p∈l,fZ p.1 ahead.size=c)→
 Calls yM 365 #[v,yE yH (ahead.size:Nat)] w (WS d ahead l w)
theorem GV {r:Key} (hp:p.1=ahead++r) (hr:0<r.size):fZ p.1 ahead.size=head r:=by rw [hp];exact aSI _ _ hr
theorem aF3 (h:bR l) (hg:Goes ahead l) {i j:Nat} (gX:i≤j) (hp:l[i]?=yP p) (hq:l[j]?=yP q):fZ p.1 ahead.size≤fZ q.1 ahead.size:=by
 by_cases e:i=j;·subst e;rw [hp] at hq;cases hq;exact ye _
 obtain⟨r,CA,hr⟩:=hg p (List.mem_of_getElem? hp);obtain⟨s,hs0,hs⟩:=hg q (List.mem_of_getElem? hq);obtain⟨h1,qQ⟩:=List.getElem?_eq_some_iff.1 hp;obtain⟨h2,hq'⟩:=List.getElem?_eq_some_iff.1 hq;have:=List.pairwise_iff_getElem.1 h i j h1 h2 (by omega);rw [qQ,hq',hr,hs,XF] at this;rw [GV hr CA,GV hs hs0];exact aYA CA hs0 this
theorem aRC (h:bR l) (hg:Goes ahead l) {k c:Nat} (hp:l[0]?=yP p) (hc:fZ p.1 ahead.size=c) (hq:l[k]?=yP q) (hne:fZ q.1 ahead.size≠c):∀ x∈l.drop k,c<fZ x.1 ahead.size:=by
 intro x hx;obtain⟨j,hj⟩:=List.getElem?_of_mem hx;rw [List.getElem?_drop] at hj;have h1:=aF3 h hg (yg k) hp hq;have h2:=aF3 h hg (show k≤k+j by omega) hq hj;omega
theorem aIF {X:Nat→Bool} {B b:Nat} {lab:Key} {pre grp:List Pr} {ks:List Kd} {wr wz w4 w6:World} {ob zQ:Option Nat} (h:KK (bO X wr) d ahead pre ks) (hX:∀ i,X i=true→B≤i∧i<wr.heap.size∧ob≠yP i)
  (hB:B≤wr.heap.size) (vU:∀ g,ob=yP g→g<wr.heap.size) (k1:Kept wr wz) (k2:Kept wz w4) (vN:∀ i,i<w4.heap.size→ob≠yP i→w6.heap[i]?=w4.heap[i]?) (kY:w4.heap.size≤w6.heap.size) (aKS:zQ=ob∨∃ g,zQ=yP g∧w4.heap.size≤g)
  (hg:Goes ahead (pre++grp)) (hr:RR (bO (nS wz.heap.size) w4) (d-lab.size) b lab (eM (ahead++lab) grp))
  (hl:0<lab.size) (hd:lab.size≤d) (hb:∀ p∈grp,tV p.1 (ahead++lab)) (hh:∀ q∈ks,head q.lab<head lab) :
  ∃ Y:Nat→Bool,KK (bO Y w6) d ahead (pre++grp) (ks ++ [⟨b,lab,eM (ahead++lab) grp⟩])∧∀ i,Y i=true→B≤i∧i<w6.heap.size∧zQ≠yP i:=by
 have z1:=k1.size;have z2:=k2.size;refine⟨fun i=>X i || (decide (wz.heap.size≤i) && decide (i<w4.heap.size)),?_,?_⟩
 ·refine (h.sub ?_).more hg (hr.sub ?_) hl hd hb hh
  ·refine oT (fun i hi=>by simp [hi]) fun i hi hlt=>?_;obtain⟨a1,a2,a3⟩:=hX i hi;rw [vN i (by omega) a3,k2.block i (by omega),k1.block i hlt]
  have e:Sub (bO (nS wz.heap.size) w4) (bO (fun i=>decide (wz.heap.size≤i) && decide (i<w4.heap.size)) w4):=BG fun i h1 h3=>by
   refine⟨?_,rfl⟩;unfold nS at h1;simp at h1 ⊢;exact⟨h1,h3⟩
  refine e.trans (oT (fun i hi=>by simp at hi ⊢;exact .inr hi) fun i hi hlt=>?_);simp at hi;exact vN i hlt fun e=>by have:=vU i e;omega
 intro i hi;simp at hi;rcases hi with hi | ⟨h1,h2⟩
 ·obtain⟨a1,a2,a3⟩:=hX i hi;refine⟨a1,by omega,?_⟩;rcases aKS with rfl | ⟨g,rfl,hg⟩
  ·exact a3
  intro e;cases e;omega
 refine⟨by omega,by omega,?_⟩;rcases aKS with rfl | ⟨g,rfl,hg⟩
 ·intro e;have:=vU i e;omega
 intro e;cases e;omega
theorem aUV (d:Nat) (hB:aIE d) (ahead:Key) (l:List Pr) (v:Value) (n:Nat) (w:World) (eW:tZ d ahead l) (hr:Rd w v n (aK l)) (hn:n=l.length) :
  Calls yM 304 #[v,yE yH (ahead.size:Nat)] w (X7 d ahead l w):=by
 obtain⟨i0,bS,hz0,hzs,hzb⟩:=info_parts DM;obtain⟨a,cap,rfl⟩:=hr.shape;have HP:=yN eW;have HN:=yN hn;have j5:n≤1000:=by rw [hn];exact eW.len
 have pN:ahead.size≤1000:=by have:=eW.dep;omega
 obtain⟨fr,YX⟩:∃ fr,fr=ahead.size:=⟨_,rfl⟩;rw [← YX] at pN ⊢;have l6:=yN YX
 have HBC:Hid (∀ (l:List Pr) (v:Value) (n c:Nat) (w:World),tZ d ahead l→Rd w v n (aK l)→n=l.length→0<n→(∀ p∈l,fZ p.1 ahead.size=c)→
  Calls yM 365 #[v,yE yH (fr:Nat)] w (WS d ahead l w)):=yN (fun l v n c w h1 h2 h3 h4 h5=>by rw [YX];exact hB ahead l v n c w h1 h2 h3 h4 h5)
 obtain⟨aA,hb⟩:=aW w (yL #[yE yH (fr:Nat)] 3);have HR:=yN (hr.kept aA);have HA:=yN aA;have EL:Hid ((w.alloc (yL #[yE yH (fr:Nat)] 3)).cell? ⟨w.heap.size,0,yO⟩=yP (yE yH (fr:Nat))):=yN (aG hb rfl);clear hB eW hn YX aA hb hr;go_enter func304,ntmps304;go_wp2_with fail;generalize w.alloc _=w1 at *;obtain⟨fb,jO⟩:∃ fb,fb=w.heap.size:=⟨_,rfl⟩;rw [← jO] at EL ⊢;have HWB:Hid (fb=w.heap.size∧fb≤w1.heap.size):=yN ⟨jO,by rw [jO];exact HA.o.size⟩;clear jO;go_wp2_with fail
 go_loopg [0,5] n (fun kx s0 s5 wr=>∃ (m:Nat) (kv:Value) (ks:List Kd) (pre rest:List Pr) (X:Nat→Bool) (a:Option Addr) (cap:Nat),s0=yC a m cap∧kv=s5∧m≤n∧Hid (m≤kx∧l=pre++rest∧m=rest.length)∧Hid (Rd w1 (yC a m cap) m (aK rest))∧
  Hid (wr.ownsRow w1.heap.size 177 1 kv ks.length (ks.map fun q=>ptr q.b))∧Hid (Kept w1 wr)∧Hid (KK (bO X wr) d ahead pre ks)∧Hid (∀ i,X i=true→w1.heap.size≤i∧i<wr.heap.size∧kv.ownBlock≠yP i)∧Hid (∀ q∈ks,∀ p∈rest,head q.lab<fZ p.1 ahead.size))
 case atStart=>exact⟨n,yC yO 0 0,[],[],l,fun _=>false,a,cap,rfl,rfl,ye _,yN ⟨ye _,rfl,HN.o⟩,HR,yN (World.ownsRow_nil _ _ _ _),yN (yk _ _),yN (a3D _ _ _),yN (fun i h=>by cases h),yN (by simp)⟩
 clear HR;obtain⟨m,kv,ks,pre,rest,X,a,cap,rfl,rfl,SS,HL,HR,HO,HK,cJ,HX,HG⟩:=hrel;by_cases zR:0<m
 ·have R5:0<(m:Int):=by omega
  obtain⟨g,off,rfl,j8,hcm,HC⟩:∃ g off,a=yP ⟨g,off,yO⟩∧m≤cap∧cap≤maxLen∧Hid (∀ j u,(aK rest)[j]?=yP u→w1.cell? ⟨g,off+j,yO⟩=yP u):=by
   rcases HR.o with ⟨a',cap',e,_,e0,_⟩ | ⟨g,off,cap',e,h1,h2,_,hcs⟩
   ·omega
   cases e;exact⟨g,off,rfl,h1,h2,yN hcs⟩
  obtain⟨p0,tl,jB⟩:∃ p0 tl,rest=p0::tl:=by
   cases rest with
   | nil=>have:=HL.o.2.2;simp at this;omega
   | cons p0 tl=>exact⟨p0,tl,rfl⟩
  have e0:wr.cell? ⟨g,off,yO⟩=yP (yA p0.1):=by refine HK.o.cell ?_;have:=HC.o 0 (yA p0.1) (by rw [jB];rfl);simpa using this
  have efb:wr.cell? ⟨fb,0,yO⟩=yP (yE yH (fr:Nat)):=HK.o.cell EL.o;have j4:rest.Sublist l:=by rw [HL.o.2.1];exact List.sublist_append_right _ _
  have xN:=HP.o.part j4;obtain⟨r0,CA,hr1⟩:=xN.goes p0 (by rw [jB];simp);have hf:fr<p0.1.size:=by rw [hr1,eP,l6.o];omega
  have iW:rest[0]?=yP p0:=by rw [jB];rfl
  have CB:=yN xN;have j9:=aF0 p0.1 fr hf;obtain⟨c,hcc⟩:∃ c,c=fZ p0.1 fr:=⟨_,rfl⟩;have a5E:c<256:=by rw [hcc];exact aUT _ _
  have gY:=yN (show c=fZ p0.1 ahead.size by rw [hcc,l6.o]);rw [← hcc] at j9;have HCX:=yN j9;have uK:=yN (yd iW jB);clear hcc j9 hr1 CA xN j4 iW jB HR;go_wp2_with fail;have aV:=yN (gB wr);refine jE (fun W:World=>W.cell? ⟨g,off,yO⟩=yP (yA p0.1)∧W.cell? ⟨fb,0,yO⟩=yP (yE yH (fr:Nat))) 8 ⟨e0,efb⟩ fun HS=>?_;clear e0 efb;generalize wr.drew=wd at *;refine tH 0 HS ?_;refine tH 1 HS ?_;refine tH 2 HS ?_;refine tH 3 HS ?_;refine tH 4 HS ?_;refine tH 5 HS ?_;go_frame;rw [← HCX.o];have aA:=aZ wd (yL #[yE yK 0] 5);have hst:=aZ wd (yL #[yE yK (c:Nat)] 5);have hb:=bM wd (yL #[yE yK 0] 5);have zM:(wd.alloc (yL #[yE yK (c:Nat)] 5)).cell? ⟨wd.heap.size,0,yO⟩=yP (yE yK (c:Nat)):=aG (bM wd _) rfl;have z0:(wd.alloc (yL #[yE yK 0] 5)).cell? ⟨wd.heap.size,0,yO⟩=yP (yE yK 0):=aG hb rfl;have f0:(wd.alloc (yL #[yE yK 0] 5)).frozen? ⟨wd.heap.size,0,yO⟩=false:=aU hb;have sK:=yN (aD bL aA HS.o);have mN:=yN (aD bL hst HS.o);have HZ:=yN zM;have HST:=yN hst;clear aA hst hb zM;refine oH 6 fun K hK=>?_;go_simp;refine hK _ _ sK.o ?_;clear hK K HS;refine oH 7 fun K hK=>?_;go_simp;refine hK _ _ mN.o ?_;clear hK K sK z0 f0;refine dA ?_;have qT:=yN (aB aV.o HST.o);clear aV HST;generalize wd.alloc _=wz at *;generalize wd.heap.size=cb at *;go_wp2_with fail;refine (aUU g off m cap fr c fb cb rest _ HL.o.2.2 (by omega) (fun p hp=>?gl) a5E mN.o.2 HZ.o (fun j u hj=>qT.o.cell (HK.o.cell (HC.o j u hj)))).mono ?_;case gl=>
   obtain⟨r,h1,h2⟩:=CB.o.goes p hp;rw [h2,eP,l6.o];omega
  rintro e w3 ⟨hk3,hres⟩;have aL:=yN (aB qT.o hk3);have aKT:=yN (hk3.cell mN.o.2);clear hk3 qT mN HZ;have X8:∃ k:Nat,0<k∧k≤m∧(∀ x∈rest.take k,fZ x.1 ahead.size=c)∧(∀ x∈rest.drop k,c<fZ x.1 ahead.size)∧((e = .returned (yE yH (-1))∧k=m)∨e = .returned (yE yH (k:Nat))):=by
   rcases hres with ⟨rfl,hno⟩ | ⟨k,q,zT,hP,gV,rfl⟩
   ·refine⟨m,zR,ye _,fun x hx=>?_,fun x hx=>?_,.inl ⟨rfl,rfl⟩⟩
    ·have:=hno x (List.mem_of_mem_take hx);rw [l6.o] at this;exact Decidable.byContradiction this
    rw [List.drop_eq_nil_of_le (by rw [← HL.o.2.2];exact ye _)] at hx;cases hx
   have l7:k<m:=by have:=(List.getElem?_eq_some_iff.1 zT).1;rw [← HL.o.2.2] at this;exact this
   have bF:0<k:=by
    rcases Nat.eq_zero_or_pos k with e | e
    ·subst e;rw [uK.o.1] at zT;cases zT;rw [l6.o] at hP;exact absurd gY.o.symm hP
    exact e
   refine⟨k,bF,by omega,fun x hx=>?_,?_,.inr rfl⟩
   ·obtain⟨j,hj⟩:=List.getElem?_of_mem hx;rw [List.getElem?_take] at hj
    split at hj
    ·next hlt=>
     have:=gV j x hj hlt;rw [l6.o] at this;exact Decidable.byContradiction this
    cases hj
   rw [l6.o] at hP;exact aRC CB.o.rise CB.o.goes uK.o.1 gY.o.symm zT hP
  clear hres;obtain⟨k,bF,l7,hG1,hG2,hE⟩:=X8;have SU:=yN (yd hG1 hG2);clear hG1 hG2 HCX;have pK:k≤cap:=yf l7 j8;have a7P:(k:Int)≤(cap:Int):=by omega
  have a7Q:(k:Int)≤(m:Int):=by omega
  have a7R:(0:Int)≤(k:Int):=by omega
  have a5F:¬ cap=0:=by omega
  rcases hE with ⟨rfl,rfl⟩ | rfl
  ·go_wp2_with fail;have aV:=yN (dY aL.o);refine jE (fun W:World=>W.cell? ⟨fb,0,yO⟩=yP (yE yH (fr:Nat))) 9 aKT.o fun HS=>?_;clear aKT aL;generalize w3.drew=wy at *;refine tH 0 HS ?_;refine tH 1 HS ?_;refine tH 2 HS ?_;refine tH 3 HS ?_;refine tH 4 HS ?_;go_frame;refine oH 5 fun K hK=>?_;go_simp;refine (HBC.o (rest.take k) (yC (yP ⟨g,off,yO⟩) k cap) k c wy (CB.o.part (List.take_sublist _ _)) (aID (fun j u hj=>aV.o.cell (HK.o.cell (HC.o j u hj))) bF pK hcm) (by rw [ze,← HL.o.2.2];omega) bF SU.o.1).mono ?_;rintro e w4 ⟨b,lab,rfl,fM,hl0,M7,hbg,hk⟩;have aF:=yN (hk.cell HS.o);have l8:=yN (show RR (bO (nS wy.heap.size) w4) (d-lab.size) b lab (eM (ahead++lab) (rest.take k))∧0<lab.size∧lab.size≤d∧∀ p∈rest.take k,tV p.1 (ahead++lab) from⟨fM,hl0,M7,hbg⟩);have aR:=yN hk;refine hK _ _ aF.o ?_;clear hK K HS fM hl0 M7 hbg hk;have HS:=aF;clear aF;refine oH 6 fun K hK=>?_;go_simp;have aA:=aZ w4 (yL #[yB (yP ⟨b,0,yO⟩)] 177);have cA:=yN aA;have aF:=yN (aA.cell HS.o);refine hK _ _ aF.o ?_;clear hK K HS aA;have HS:=aF;clear aF;have lY:=yN (bT HO.o (aB aV.o (aB aR.o cA.o)));have iH:=cell_one_new w4 (yB (yP ⟨b,0,yO⟩)) 177;have h1c:∀ u∈[yB (yP ⟨b,0,yO⟩)],u.oneCell'=true:=by intro u hu;simp at hu;subst hu;rfl
   have B6:=cJ.o.len;have hz1:=HK.o.size;have hz2:=aV.o.size;have hz3:=aR.o.size;have bH:=cA.o.size;have hmx:ks.length+1≤maxLen:=by unfold maxLen;omega
   have hZ:w1.heap.size≤(w4.alloc (yL #[yB (yP ⟨b,0,yO⟩)] 177)).heap.size:=by omega
   refine oH 7 fun K hK=>?_;refine (if_pos (show Region.wanted _ _=true from rfl)).mpr ?_;refine A2 _ _ 343 rfl w1.heap.size 177 i0 (yB yO) 1 8 underlying343 bS hz0 hzs hzb rfl (by decide) _ _ _ rfl lY.o ⟨w4.heap.size,0,yO⟩ 1 1 [yB (yP ⟨b,0,yO⟩)] rfl rfl iH h1c hmx (by omega) hZ ?_;intro v' w6 hown hgrow fU;obtain⟨va,vc,rfl⟩:=bW hown;have e6:w6.cell? ⟨fb,0,yO⟩=yP (yE yH (fr:Nat)):=eG hgrow HS.o (fun e=>by have:=(lY.o.lt fb e.symm).1;have h9:fb<w1.heap.size:=mU EL.o;omega);refine hK _ _ e6 ?_;clear hK K HS;have dC:=yN (yd hown (yd hgrow fU));clear hown hgrow fU iH h1c hZ;refine oH 8 fun K hK=>?_;go_simp;refine hK _ _ e6 ?_;clear hK K;refine dA ?_;have nE:=dC.o.2.1.size;have XL:Kept w1 w6:=Below.grown (aB HK.o (aB aV.o (aB aR.o cA.o))) dC.o.2.1 (by omega) (fun q hq=>(lY.o.lt q hq).1);have dS:=yN XL;have a7S:Kept wr (w4.alloc (yL #[yB (yP ⟨b,0,yO⟩)] 177)):=aB aV.o (aB aR.o cA.o);have hold:∀ i,i<(w4.alloc (yL #[yB (yP ⟨b,0,yO⟩)] 177)).heap.size→kv.ownBlock≠yP i→w6.heap[i]?=(w4.alloc (yL #[yB (yP ⟨b,0,yO⟩)] 177)).heap[i]?:=fun i hi hne=>dC.o.2.1.block i hi (fun e=>hne e.symm);have uA:head lab=c:=by
    obtain⟨s,hs⟩:=l8.o.2.2.2 p0 (List.mem_of_getElem? (show (rest.take k)[0]?=yP p0 by rw [List.getElem?_take,if_pos bF];exact uK.o.1));rw [qE] at hs;rw [gY.o,GV hs (by rw [eP];have:=l8.o.2.1;omega),kG _ l8.o.2.1]
   have hstep:=aIF (X:=X) (B:=w1.heap.size) (ob:=kv.ownBlock) (zQ:=(yC va (ks.length+1) vc).ownBlock) (wr:=wr) (wz:=wy) (w4:=w4) (w6:=w6) (grp:=rest.take k) cJ.o HX.o hz1 (fun q hq=>(HO.o.lt q hq).2) aV.o aR.o (fun i hi hne=>by rw [hold i (by omega) hne];exact cA.o.block i hi) (by omega) (by
     rcases dC.o.2.2 with e | e
     ·exact .inl e
     exact .inr ⟨_,e,bH⟩)
    (fun p hp=>HP.o.goes p (by rw [HL.o.2.1];rcases za.1 hp with h | h;exact List.mem_append_left _ h;exact List.mem_append_right _ (List.mem_of_mem_take h))) l8.o.1 l8.o.2.1 l8.o.2.2.1 l8.o.2.2.2 ?hheadsb
   case hheadsb=>
    intro q hq;rw [uA,gY.o];exact HG.o q hq p0 (by rw [uK.o.2];simp)
   obtain⟨Y,SV,hY2⟩:=hstep;have HY:=yN (yd SV hY2)
   have M8:Hid (∀ q∈ks ++ [(⟨b,lab,eM (ahead++lab) (rest.take k)⟩:Kd)],∀ p∈rest.drop k,head q.lab<fZ p.1 ahead.size):=yN (by
    intro q hq p hp;rcases za.1 hq with hq | hq
    ·exact HG.o q hq p (List.mem_of_mem_drop hp)
    rw [List.mem_singleton.1 hq];show head lab<_;rw [uA];exact SU.o.2 p hp)
   clear SV hY2 hold a7S XL uA;by_cases nW:cap=k
   ·go_wp2;go_roundg (k-k);case measure=>have:=HL.o.1;omega
    refine⟨0,yC va (ks.length+1) vc,ks ++ [(⟨b,lab,eM (ahead++lab) (rest.take k)⟩:Kd)],pre++rest.take k,rest.drop k,Y,_,_,rfl,rfl,by omega,yN ⟨yg _,?_,?_⟩,yN ?_,yN ?_,dS,yN HY.o.1,yN HY.o.2,M8⟩;·rw [zf,List.take_append_drop];exact HL.o.2.1
    ·rw [zg,← HL.o.2.2];try omega
    ·have h9:=P2 (w:=w1) (g:=g) (off:=off) HL.o.2.2 l7 j8 hcm nW;rw [Nat.sub_self] at h9;exact h9
    rw [yy,List.map_append];exact dC.o.1
   go_wp2;go_roundg (k-k);case measure=>have:=HL.o.1;omega
   refine⟨0,yC va (ks.length+1) vc,ks ++ [(⟨b,lab,eM (ahead++lab) (rest.take k)⟩:Kd)],pre++rest.take k,rest.drop k,Y,_,_,rfl,rfl,by omega,yN ⟨yg _,?_,?_⟩,yN ?_,yN ?_,dS,yN HY.o.1,yN HY.o.2,M8⟩;·rw [zf,List.take_append_drop];exact HL.o.2.1
   ·rw [zg,← HL.o.2.2];try omega
   ·have h9:=RJ HC.o HL.o.2.2 l7 j8 hcm;rw [Nat.sub_self] at h9;exact h9
   rw [yy,List.map_append];exact dC.o.1
  go_wp2_with fail;have aV:=yN (dY aL.o);refine jE (fun W:World=>W.cell? ⟨fb,0,yO⟩=yP (yE yH (fr:Nat))) 9 aKT.o fun HS=>?_;clear aKT aL;generalize w3.drew=wy at *;refine tH 0 HS ?_;refine tH 1 HS ?_;refine tH 2 HS ?_;refine tH 3 HS ?_;refine tH 4 HS ?_;go_frame;refine oH 5 fun K hK=>?_;go_simp;refine (HBC.o (rest.take k) (yC (yP ⟨g,off,yO⟩) k cap) k c wy (CB.o.part (List.take_sublist _ _)) (aID (fun j u hj=>aV.o.cell (HK.o.cell (HC.o j u hj))) bF pK hcm) (by rw [ze,← HL.o.2.2];omega) bF SU.o.1).mono ?_;rintro e w4 ⟨b,lab,rfl,fM,hl0,M7,hbg,hk⟩;have aF:=yN (hk.cell HS.o);have l8:=yN (show RR (bO (nS wy.heap.size) w4) (d-lab.size) b lab (eM (ahead++lab) (rest.take k))∧0<lab.size∧lab.size≤d∧∀ p∈rest.take k,tV p.1 (ahead++lab) from⟨fM,hl0,M7,hbg⟩);have aR:=yN hk;refine hK _ _ aF.o ?_;clear hK K HS fM hl0 M7 hbg hk;have HS:=aF;clear aF;refine oH 6 fun K hK=>?_;go_simp;have aA:=aZ w4 (yL #[yB (yP ⟨b,0,yO⟩)] 177);have cA:=yN aA;have aF:=yN (aA.cell HS.o);refine hK _ _ aF.o ?_;clear hK K HS aA;have HS:=aF;clear aF;have lY:=yN (bT HO.o (aB aV.o (aB aR.o cA.o)));have iH:=cell_one_new w4 (yB (yP ⟨b,0,yO⟩)) 177;have h1c:∀ u∈[yB (yP ⟨b,0,yO⟩)],u.oneCell'=true:=by intro u hu;simp at hu;subst hu;rfl
  have B6:=cJ.o.len;have hz1:=HK.o.size;have hz2:=aV.o.size;have hz3:=aR.o.size;have bH:=cA.o.size;have hmx:ks.length+1≤maxLen:=by unfold maxLen;omega
  have hZ:w1.heap.size≤(w4.alloc (yL #[yB (yP ⟨b,0,yO⟩)] 177)).heap.size:=by omega
  refine oH 7 fun K hK=>?_;refine (if_pos (show Region.wanted _ _=true from rfl)).mpr ?_;refine A2 _ _ 343 rfl w1.heap.size 177 i0 (yB yO) 1 8 underlying343 bS hz0 hzs hzb rfl (by decide) _ _ _ rfl lY.o ⟨w4.heap.size,0,yO⟩ 1 1 [yB (yP ⟨b,0,yO⟩)] rfl rfl iH h1c hmx (by omega) hZ ?_;intro v' w6 hown hgrow fU;obtain⟨va,vc,rfl⟩:=bW hown;have e6:w6.cell? ⟨fb,0,yO⟩=yP (yE yH (fr:Nat)):=eG hgrow HS.o (fun e=>by have:=(lY.o.lt fb e.symm).1;have h9:fb<w1.heap.size:=mU EL.o;omega);refine hK _ _ e6 ?_;clear hK K HS;have dC:=yN (yd hown (yd hgrow fU));clear hown hgrow fU iH h1c hZ;refine oH 8 fun K hK=>?_;go_simp;refine hK _ _ e6 ?_;clear hK K;refine dA ?_;have nE:=dC.o.2.1.size;have XL:Kept w1 w6:=Below.grown (aB HK.o (aB aV.o (aB aR.o cA.o))) dC.o.2.1 (by omega) (fun q hq=>(lY.o.lt q hq).1);have dS:=yN XL;have a7S:Kept wr (w4.alloc (yL #[yB (yP ⟨b,0,yO⟩)] 177)):=aB aV.o (aB aR.o cA.o);have hold:∀ i,i<(w4.alloc (yL #[yB (yP ⟨b,0,yO⟩)] 177)).heap.size→kv.ownBlock≠yP i→w6.heap[i]?=(w4.alloc (yL #[yB (yP ⟨b,0,yO⟩)] 177)).heap[i]?:=fun i hi hne=>dC.o.2.1.block i hi (fun e=>hne e.symm);have uA:head lab=c:=by
   obtain⟨s,hs⟩:=l8.o.2.2.2 p0 (List.mem_of_getElem? (show (rest.take k)[0]?=yP p0 by rw [List.getElem?_take,if_pos bF];exact uK.o.1));rw [qE] at hs;rw [gY.o,GV hs (by rw [eP];have:=l8.o.2.1;omega),kG _ l8.o.2.1]
  have hstep:=aIF (X:=X) (B:=w1.heap.size) (ob:=kv.ownBlock) (zQ:=(yC va (ks.length+1) vc).ownBlock) (wr:=wr) (wz:=wy) (w4:=w4) (w6:=w6) (grp:=rest.take k) cJ.o HX.o hz1 (fun q hq=>(HO.o.lt q hq).2) aV.o aR.o (fun i hi hne=>by rw [hold i (by omega) hne];exact cA.o.block i hi) (by omega) (by
    rcases dC.o.2.2 with e | e
    ·exact .inl e
    exact .inr ⟨_,e,bH⟩)
   (fun p hp=>HP.o.goes p (by rw [HL.o.2.1];rcases za.1 hp with h | h;exact List.mem_append_left _ h;exact List.mem_append_right _ (List.mem_of_mem_take h))) l8.o.1 l8.o.2.1 l8.o.2.2.1 l8.o.2.2.2 ?hheadsc
  case hheadsc=>
   intro q hq;rw [uA,gY.o];exact HG.o q hq p0 (by rw [uK.o.2];simp)
  obtain⟨Y,SV,hY2⟩:=hstep;have HY:=yN (yd SV hY2)
  have M8:Hid (∀ q∈ks ++ [(⟨b,lab,eM (ahead++lab) (rest.take k)⟩:Kd)],∀ p∈rest.drop k,head q.lab<fZ p.1 ahead.size):=yN (by
   intro q hq p hp;rcases za.1 hq with hq | hq
   ·exact HG.o q hq p (List.mem_of_mem_drop hp)
   rw [List.mem_singleton.1 hq];show head lab<_;rw [uA];exact SU.o.2 p hp)
  clear SV hY2 hold a7S XL uA;by_cases nW:cap=k
  ·go_wp2;go_roundg (m-k);case measure=>have:=HL.o.1;omega
   refine⟨m-k,yC va (ks.length+1) vc,ks ++ [(⟨b,lab,eM (ahead++lab) (rest.take k)⟩:Kd)],pre++rest.take k,rest.drop k,Y,_,_,rfl,rfl,by omega,yN ⟨ye _,?_,?_⟩,yN ?_,yN ?_,dS,yN HY.o.1,yN HY.o.2,M8⟩;·rw [zf,List.take_append_drop];exact HL.o.2.1
   ·rw [zg,← HL.o.2.2];try omega
   ·exact P2 HL.o.2.2 l7 j8 hcm nW
   rw [yy,List.map_append];exact dC.o.1
  go_wp2;go_roundg (m-k);case measure=>have:=HL.o.1;omega
  refine⟨m-k,yC va (ks.length+1) vc,ks ++ [(⟨b,lab,eM (ahead++lab) (rest.take k)⟩:Kd)],pre++rest.take k,rest.drop k,Y,_,_,rfl,rfl,by omega,yN ⟨ye _,?_,?_⟩,yN ?_,yN ?_,dS,yN HY.o.1,yN HY.o.2,M8⟩;·rw [zf,List.take_append_drop];exact HL.o.2.1
  ·rw [zg,← HL.o.2.2];try omega
  ·exact RJ HC.o HL.o.2.2 l7 j8 hcm
  rw [yy,List.map_append];exact dC.o.1
 have R5:¬ 0<(m:Int):=by omega
 have hz:m=0:=by omega
 subst hz;go_wp2;go_ret;have jB:rest=[]:=List.eq_nil_of_length_eq_zero HL.o.2.2.symm;have qU:l=pre:=by rw [HL.o.2.1,jB,zi]
 refine⟨kv,ks,rfl,dG HO.o HA.o.size,?_,aB HA.o HK.o⟩;rw [qU];exact cJ.o.sub (oT (fun i hi=>by have h1:=(HX.o i hi).1;have h2:=HA.o.size;unfold nS;simp;omega) fun i _ _=>rfl)
end
section
attribute [local irreducible] fZ
variable {i j:Nat} {l:List Pr} {key:Key}
theorem aU2 (a:Key) (h1:i≤j) (h2:j≤a.size):a.extract 0 i++a.extract i j=a.extract 0 j:=by
 apply nR;rw [jX,qA,qA,qA];simp only [List.drop_zero,Nat.sub_zero];have h:=List.take_append_drop i (a.data.toList.take j);rw [List.take_take,Nat.min_eq_left h1,List.drop_take] at h;exact h
theorem aU3 (a:Key) (h2:j≤a.size):(a.extract i j).size=j-i:=by
 rw [← fA,qA,ze,zg,fA];omega
theorem a00 {a b c:Key} (h:a=b++c):a.extract 0 b.size=b:=by
 subst h;apply nR;rw [qA,jX,← fA b];simp
theorem aEO {p0:Pr} {tl:List Pr} (h:bR l) (hl:l=p0::tl) (hb:∀ p∈l,tV p.1 key):(p0.1=key→Goes key tl)∧(p0.1≠key→Goes key l):=by
 have h':=yz.1 (hl ▸ h);refine⟨fun e p hp=>?_,fun e p hp=>?_⟩
 ·obtain⟨r,hr⟩:=hb p (by rw [hl];simp [hp]);refine⟨r,?_,hr⟩;rcases Nat.eq_zero_or_pos r.size with hz | hz
  ·rw [yT hz,tR] at hr;have:=h'.1 p hp;rw [hr,e,lt_irrefl] at this;cases this
  exact hz
 obtain⟨r,hr⟩:=hb p hp;refine⟨r,?_,hr⟩;rcases Nat.eq_zero_or_pos r.size with hz | hz
 ·exfalso;rw [yT hz,tR] at hr;obtain⟨s,hs⟩:=hb p0 (by rw [hl];simp);have hs0:0<s.size:=by
   rcases Nat.eq_zero_or_pos s.size with hz | hz
   ·rw [yT hz,tR] at hs;exact absurd hs e
   exact hz
  rw [hl] at hp;rcases yx.1 hp with rfl | hp
  ·exact e hr
  have h1:=h'.1 p hp;have h2:=aH5 key hs0;rw [← hs] at h2;rw [hr] at h1;have:=lt_trans h1 h2;rw [lt_irrefl] at this;cases this
 exact hz
theorem C8 {w w1:World} {B d b:Nat} {lab val:Key} {has:Bool} {kv:Value} {ks:List Kd} {m:List Pr} (h:KK (bO (nS B) w1) d key m ks) (hk:Kept w1 w) (hB:B≤w1.heap.size) (ho:OR w1.heap.size w b lab has val kv ks.length (ks.map fun q=>ptr q.b)) (hv:has=false→val=yj)
  (ha:dD (if has then yP val else yO) ks (eM key l)):RR (bO (nS B) w) d b lab (eM key l):=by
 have hx:∀ i,w1.heap.size≤i→nS B i=true:=fun i hi=>by unfold nS;simp;omega
 refine .mk d b lab has val kv ks _ (a3C ho.nr (hx _ ho.2.1)) (XK ho.2.2 hx) hv h.h3 h.h4 (fun q hq=>(h.h5 q hq).sub (oT (fun i hi=>hi) fun i hi hlt=>hk.block i hlt)) ha h.h7
def aJT (d:Nat):Prop:=∀ (ahead:Key) (l:List Pr) (v:Value) (n:Nat) (w:World),tZ d ahead l→Rd w v n (aK l)→n=l.length→
 Calls yM 304 #[v,yE yH (ahead.size:Nat)] w (X7 d ahead l w)
theorem aRE (d:Nat) (hK:∀ d',d'<d→aJT d'):aIE d:=by
 intro ahead l v n cb w eW hr hn jM hcb;obtain⟨a,cap,rfl⟩:=hr.shape;have HKC:=yN hK;obtain⟨g,off,rfl,kQ,hcm,HC⟩:∃ g off,a=yP ⟨g,off,yO⟩∧n≤cap∧cap≤maxLen∧Hid (∀ j u,(aK l)[j]?=yP u→w.cell? ⟨g,off+j,yO⟩=yP u):=by
  rcases hr with ⟨a',cap',e,_,e0,_⟩ | ⟨g,off,cap',e,h1,h2,_,hcs⟩
  ·omega
  cases e;exact⟨g,off,rfl,h1,h2,yN hcs⟩
 obtain⟨p0,tl,hl⟩:∃ p0 tl,l=p0::tl:=by
  cases l with
  | nil=>simp at hn;omega
  | cons p0 tl=>exact⟨p0,tl,rfl⟩
 have iW:l[0]?=yP p0:=by rw [hl];rfl
 obtain⟨pz,AA⟩:∃ pz,l[l.length-1]?=yP pz:=⟨l[l.length-1]'(by omega),List.getElem?_eq_getElem _⟩;obtain⟨u,hu⟩:∃ u,u=n-1:=⟨_,rfl⟩;have cu:(n:Int)-1=(u:Int):=by omega
 have wu:yH.wrap ((n:Int)-1)=(u:Int):=by rw [zk];have:=eW.len;omega
 have wu2:yH.wrap (u:Int)=(u:Int):=by rw [zk];have:=eW.len;omega
 have pu:(0:Int)≤(u:Int)∧(u:Int)<(n:Int):=by omega
 have tu:((u:Int)).toNat=u:=by omega
 have e0:w.cell? ⟨g,off,yO⟩=yP (yA p0.1):=by have:=HC.o 0 (yA p0.1) (by rw [hl];rfl);simpa using this
 have e01:w.cell? ⟨g,off+1,yO⟩=yP (yA p0.2):=HC.o 1 (yA p0.2) (by rw [hl];rfl);have ez:w.cell? ⟨g,off+u*2,yO⟩=yP (yA pz.1):=by
  have:=HC.o _ _ (JT AA).1;rw [show off+2*(l.length-1)=off+u*2 by omega] at this;exact this
 obtain⟨r0,CA,hr1⟩:=eW.goes p0 (by rw [hl];simp);obtain⟨rz,a8B,aK2⟩:=eW.goes pz (List.mem_of_getElem? AA);have hs0:=eW.far p0 (by rw [hl];simp);have hsz:=eW.far pz (List.mem_of_getElem? AA);have a8C:=eW.dep;have hlen:=eW.len;obtain⟨to,S7⟩:∃ to,to=Twig.com p0.1.data.toList pz.1.data.toList:=⟨_,rfl⟩;have aK3:to≤p0.1.size:=by rw [S7,← fA];exact Twig.FT _ _
 have aK4:ahead.size<to:=by
  have e1:fZ p0.1 ahead.size=fZ pz.1 ahead.size:=by rw [hcb p0 (by rw [hl];simp),hcb pz (List.mem_of_getElem? AA)]
  rw [GV hr1 CA,GV aK2 a8B] at e1;rw [S7,hr1,aK2,jX,jX];have:ahead.data.toList.length+1≤Twig.com (ahead.data.toList++r0.data.toList) (ahead.data.toList++rz.data.toList):=by
   have h1:=fA r0;have h2:=fA rz;unfold head at e1;cases ex:r0.data.toList with
   | nil=>rw [ex] at h1;simp at h1;omega
   | cons x xs=>
    cases ey:rz.data.toList with
    | nil=>rw [ey] at h2;simp at h2;omega
    | cons y ys=>
     rw [ex,ey] at e1;have exy:x=y:=UInt8.toNat_inj.1 (by simpa using e1);subst exy;clear e1 ex ey h1 h2;induction ahead.data.toList with
     | nil=>simp [Twig.com]
     | cons z zs ih=>simp only [List.cons_append,zh,Twig.com,if_pos];omega
  rw [fA] at this;omega
 have WV:=aQ9 eW.rise iW AA to S7;obtain⟨fr,pN⟩:∃ fr,fr=ahead.size:=⟨_,rfl⟩;rw [← pN] at aK4 a8C ⊢;obtain⟨lab,uA⟩:∃ lab,lab=p0.1.extract fr to:=⟨_,rfl⟩;obtain⟨key,hkey⟩:∃ key,key=ahead++lab:=⟨_,rfl⟩;have hkx:p0.1.extract 0 to=key:=by rw [hkey,uA,← aU2 p0.1 (Nat.le_of_lt aK4) aK3,pN,a00 hr1]
 have a5L:lab.size=to-fr:=by rw [uA];exact aU3 _ aK3
 have LJ:key.size=to:=by rw [hkey,eP,a5L];omega
 rw [hkx] at WV;have M7:lab.size≤d:=by omega
 have hl0:0<lab.size:=by omega
 have hbg:=aEO eW.rise hl WV;have kL:∀ (w':World) (b:Nat),RR (bO (nS w.heap.size) w') (d-lab.size) b lab (eM key l)→Kept w w'→WS d ahead l w (.returned (yB (yP ⟨b,0,yO⟩))) w':=fun w' b h1 h2=>
  ⟨b,lab,rfl,by rw [← hkey];exact h1,hl0,M7,by rw [← hkey];exact WV,h2⟩
 have HF:=yN kL;have H9:=yN (hK (d-lab.size) (by omega) key);rw [LJ] at H9;have rV:Hid (∀ m:List Pr,m.Sublist l→Goes key m→tZ (d-lab.size) key m):=yN (fun m hm hg=>⟨List.Pairwise.sublist hm eW.rise,hg,fun p hp=>by have:=eW.far p (hm.subset hp);omega,by omega,yf hm.length_le eW.len⟩);have HTO:=yN S7;have aK5:=yN uA;have HL:=yN (yd hl hn);have NP:=yN hbg;have S8:(fr:Int)≤(to:Int):=by omega
 have hti:(to:Int)≤(p0.1.size:Int):=by omega
 have HKEY:Hid (p0.1.size=to↔p0.1=key):=yN ⟨fun e=>by rw [← hkx,← e,ByteArray.extract_zero_size],fun e=>by rw [e];exact LJ⟩;have ET:p0.1.size≤1000:=by omega
 have hzs:pz.1.size≤1000:=by omega
 clear hK hr hn eW hcb iW AA hu hr1 aK2 S7 WV pN uA hkey hkx hbg kL hl;go_enter func365,ntmps365;go_wp2_with fail;have aV:=yN (gB w);refine jE (fun W:World=>W.cell? ⟨g,off,yO⟩=yP (yA p0.1)∧W.cell? ⟨g,off+u*2,yO⟩=yP (yA pz.1)) 13 ⟨e0,ez⟩ fun HS=>?_;clear ez;generalize w.drew=wd at *;refine tH 0 HS ?_;refine tH 1 HS ?_;refine tH 2 HS ?_;refine tH 3 HS ?_;refine tH 4 HS ?_;refine tH 5 HS ?_;refine tH 6 HS ?_;refine tH 7 HS ?_;refine tH 8 HS ?_;refine tH 9 HS ?_;refine tH 10 HS ?_;go_frame;refine oH 11 fun K hK=>?_;go_simp;refine (Twig.aEM p0.1 pz.1 _ ET hzs).mono ?_;rintro e w1 ⟨rfl,q,rfl⟩;rw [← HTO.o];have aF:=yN HS.o;refine hK _ _ aF.o ?_;clear hK K HS;have HS:=aF;clear aF;refine oH 12 fun K hK=>?_;go_simp;refine hK _ _ HS.o ?_;clear hK K;refine dA ?_;have aJ:=yN (show Kept w (wd.drewN q) from iC aV.o q);clear aV HS;generalize wd.drewN q=w1 at *;have d0:=aJ.o.cell e0;have d1:=aJ.o.cell e01;clear e0 e01;by_cases ZC:p0.1.size=to
 ·have hh:((p0.1.size:Int) == (to:Int))=true:=by rw [ZC];simp
  have xN:=HKEY.o.1 ZC;have HG:=yN (NP.o.1 xN);have CB:=yN xN;have hn1:((1:Nat):Int)≤(n:Int):=by omega
  have bG7:(1:Int)≤(n:Int):=by omega
  clear ZC xN;go_wp2_with fail;go_region;rw [← aK5.o];by_cases hc1:cap=1
  ·have BR:Hid (Kept w w1.drew.drew):=yN (ym (ym aJ.o));go_wp2_with fail;go_region;go_wp2_with fail;refine (H9.o tl (yC (yP ⟨g,off,yO⟩) (n-1) 0) (n-1) _ (rV.o _ (by rw [HL.o.1];exact List.sublist_cons_self _ _) (HG.o)) (by have h9:=P2 (w:=w1.drew.drew) (g:=g) (off:=off) HL.o.2 jM kQ hcm hc1;rw [HL.o.1] at h9;exact h9) (by have:=HL.o.2;rw [HL.o.1] at this;simp at this;omega)).mono ?_;rintro e w2 ⟨v2,ks,rfl,hown,cH,hk2⟩;obtain⟨va,vc,rfl⟩:=bW hown;have cJ:=yN cH;have aH:=yN (show Kept w w2 from aB BR.o hk2);have AB:=BR.o.size;have eB:=hk2.size;have HOW:=yN hown;have gS:=cH.len;clear hown cH hk2;go_wp2_with fail;refine (C5 ks.length lab p0.2 true _ (ks.map Kd.b) _ (by simp) (by rw [List.map_map];exact dH HOW.o) gS (fun e=>by cases e)).mono ?_;rintro e w3 ⟨c,I1,rfl,dU,hk3⟩;rw [List.map_map] at dU;go_wp2;go_ret;refine HF.o _ _ ?_ (aB aH.o hk3);refine (C8 cJ.o hk3 eB dU (fun e=>by cases e) ?_).sub (oT (fun i hi=>by unfold nS at hi ⊢;simp only [decide_eq_true_eq] at hi ⊢;exact yf AB hi) fun _ _ _=>rfl);have h9:=RH (val:=p0.2) cJ.o.h6 cJ.o.h3;rw [HL.o.1];rw [← CB.o] at h9 ⊢;exact h9
  have BR:Hid (Kept w w1.drew.drew):=yN (ym (ym aJ.o));go_wp2_with fail;go_region;go_wp2_with fail;refine (H9.o tl (yC (yP ⟨g,off+1*2,yO⟩) (n-1) (cap-1)) (n-1) _ (rV.o _ (by rw [HL.o.1];exact List.sublist_cons_self _ _) (HG.o)) (by have h9:=RJ (fun j u hj=>aJ.o.cell (HC.o j u hj)) HL.o.2 jM kQ hcm;rw [HL.o.1] at h9;exact h9) (by have:=HL.o.2;rw [HL.o.1] at this;simp at this;omega)).mono ?_;rintro e w2 ⟨v2,ks,rfl,hown,cH,hk2⟩;obtain⟨va,vc,rfl⟩:=bW hown;have cJ:=yN cH;have aH:=yN (show Kept w w2 from aB BR.o hk2);have AB:=BR.o.size;have eB:=hk2.size;have HOW:=yN hown;have gS:=cH.len;clear hown cH hk2;go_wp2_with fail;refine (C5 ks.length lab p0.2 true _ (ks.map Kd.b) _ (by simp) (by rw [List.map_map];exact dH HOW.o) gS (fun e=>by cases e)).mono ?_;rintro e w3 ⟨c,I1,rfl,dU,hk3⟩;rw [List.map_map] at dU;go_wp2;go_ret;refine HF.o _ _ ?_ (aB aH.o hk3);refine (C8 cJ.o hk3 eB dU (fun e=>by cases e) ?_).sub (oT (fun i hi=>by unfold nS at hi ⊢;simp only [decide_eq_true_eq] at hi ⊢;exact yf AB hi) fun _ _ _=>rfl);have h9:=RH (val:=p0.2) cJ.o.h6 cJ.o.h3;rw [HL.o.1];rw [← CB.o] at h9 ⊢;exact h9
 have hh:((p0.1.size:Int) == (to:Int))=false:=by simp;omega
 have HG:=yN (NP.o.2 (fun e=>ZC (HKEY.o.2 e)));have BR:=yN (dY aJ.o);clear ZC;go_wp2_with fail;go_region;rw [← aK5.o];go_wp2_with fail;refine (H9.o l (yC (yP ⟨g,off,yO⟩) n cap) n _ (rV.o _ (List.Sublist.refl _) (HG.o)) (show Rd w1.drew (yC (yP ⟨g,off,yO⟩) n cap) n (aK l) from .inr ⟨g,off,cap,rfl,kQ,hcm,jM,fun j u hj=>aJ.o.cell (HC.o j u hj)⟩) (HL.o.2)).mono ?_;rintro e w2 ⟨v2,ks,rfl,hown,cH,hk2⟩;obtain⟨va,vc,rfl⟩:=bW hown;have cJ:=yN cH;have aH:=yN (show Kept w w2 from aB BR.o hk2);have AB:=BR.o.size;have eB:=hk2.size;have HOW:=yN hown;have gS:=cH.len;clear hown cH hk2;go_wp2_with fail;refine (C5 ks.length lab yj false _ (ks.map Kd.b) _ (by simp) (by rw [List.map_map];exact dH HOW.o) gS (fun _=>rfl)).mono ?_;rintro e w3 ⟨c,I1,rfl,dU,hk3⟩;rw [List.map_map] at dU;go_wp2;go_ret;refine HF.o _ _ ?_ (aB aH.o hk3);refine (C8 cJ.o hk3 eB dU (fun _=>rfl) ?_).sub (oT (fun i hi=>by unfold nS at hi ⊢;simp only [decide_eq_true_eq] at hi ⊢;exact yf AB hi) fun _ _ _=>rfl);exact cJ.o.h6
theorem aYG:∀ d,aJT d:=fun d=>by
 induction d using Nat.strongRecOn with
 | _ d ih=>exact fun ahead l v n w h1 h2 h3=>aUV d (aRE d ih) ahead l v n w h1 h2 h3
theorem QJ (d n:Nat) (l:List Pr) (v:Value) (w:World) (h1:tZ d yj l) (h2:Rd w v n (aK l)) (h3:n=l.length) :
  Calls yM 304 #[v,yE yH 0] w (X7 d yj l w):=aYG d yj l v n w h1 h2 h3
def a3K (l:List Pr) (w:World) (e:Ending) (w':World):Prop:=
 ∃ c s,e = .returned (yB (yP ⟨c,0,yO⟩))∧iI l s∧RR w' 1000 c yj (look s)∧Kept w w'
theorem aYH {s:List Pr} (h:bR s) (hn:∀ p∈s,p.1≠yj) (hs:∀ p∈s,p.1.size≤300) (hl:s.length≤1000):tZ 300 yj s:=
 ⟨h,fun p hp=>⟨p.1,xC.1 (hn p hp),(wZ _).symm⟩,fun p hp=>by rw [show yj.size=0 from rfl];have:=hs p hp;omega,by decide,hl⟩
theorem a01:(ByteArray.toList yj).isEmpty=true:=by rw [ByteArray.toList_eq];rfl
theorem aU4 (n:Nat) (v:Value) (l:List Pr) (w:World) (h:Rd w v n (aK l)) (hl:n=l.length) (aK0:n<40) (hz:∀ p∈l,p.1.size≤300) :
  Calls yM 233 #[v] w (a3K l w):=by
 have HR:=yN h;have HN:=yN hl;have HZ:=yN hz;clear h hl hz;go_enter func233,ntmps233;go_wp2_with fail;refine (U6 n v l _ HR.o HN.o aK0).mono ?_;rintro e w1 ⟨v1,s,rfl,hown1,BS,aS⟩;have bJ:=yN BS;have wC:=yN (show ∀ p∈s,p.1.size≤300 from fun p hp=>HZ.o p (BS.sub p hp))
 have NQ:=yN (show s.length≤1000 from by
  have h1:=C2 (s.map Prod.fst) (l.map Prod.fst) BS.rise.nodup (fun k hk=>by
   obtain⟨p,hp,rfl⟩:=zj.1 hk;exact zj.2 ⟨p,BS.sub p hp,rfl⟩)
  rw [List.length_map,List.length_map] at h1;have:=HN.o;omega)
 have eE:=yN (dH hown1);have aJ:=yN aS;obtain⟨m,hm⟩:∃ m,m=s.length:=⟨_,rfl⟩;obtain⟨a1,c1,rfl⟩:=bW hown1;rw [← hm] at eE ⊢;have HM:=yN hm;clear hown1 BS aS hm;by_cases zR:m=0
 ·have hs0:s=[]:=List.eq_nil_of_length_eq_zero (by rw [← HM.o];exact zR);subst hs0;subst zR;go_wp2_with fail;go_region;go_wp2_with fail;have eF:=yN (dY aJ.o)
  refine (QJ 300 0 [] _ _ (aYH bJ.o.rise (by simp) (by simp) (by simp)) (.inl ⟨a1,c1,rfl,by
   rcases eE.o with ⟨a',cap',e,h9,_⟩ | ⟨_,_,_,_,_,_,h9,_⟩
   ·cases e;exact h9
   omega,rfl,rfl⟩) rfl).mono ?_
  rintro e w3 ⟨v2,ks,rfl,hown,cH,hk3⟩;have cJ:=yN cH;obtain⟨va,vc,rfl⟩:=bW hown;have aL:=yN (show Kept w w3 from aB eF.o hk3);have HOW:=yN hown;have gS:=cH.len;have AB:=eF.o.size;have eB:=hk3.size;clear hown cH hk3;go_wp2_with fail;refine (C5 ks.length yj yj false _ (ks.map Kd.b) _ (by simp) (by rw [List.map_map];exact dH HOW.o) gS (fun _=>rfl)).mono ?_;rintro e w4 ⟨c,I1,rfl,dU,hk4⟩;rw [List.map_map] at dU;go_wp2;go_ret;refine⟨c,[],rfl,bJ.o,?_,aB aL.o hk4⟩;have h8:=(C8 (d:=300) (b:=c) (l:=[]) (key:=yj) cJ.o hk4 eB dU (fun _=>rfl) cJ.o.h6).sub (BB _ _);rw [show eM yj []=look [] from by funext r;unfold eM;rw [wZ]] at h8;exact h8.mono 1000 (by decide)
 obtain⟨p0,tl,hs⟩:∃ p0 tl,s=p0::tl:=by
  cases s with
  | nil=>have:=HM.o;simp at this;omega
  | cons p0 tl=>exact⟨p0,tl,rfl⟩
 obtain⟨g,off,rfl,j8,hcm,HC⟩:∃ g off,a1=yP ⟨g,off,yO⟩∧m≤c1∧c1≤maxLen∧Hid (∀ j u,(aK s)[j]?=yP u→w1.cell? ⟨g,off+j,yO⟩=yP u):=by
  rcases eE.o with ⟨a',cap',e,_,e0,_⟩ | ⟨g,off,cap',e,h1,h2,_,hcs⟩
  ·omega
  cases e;exact⟨g,off,rfl,h1,h2,yN hcs⟩
 have e0:w1.cell? ⟨g,off,yO⟩=yP (yA p0.1):=by have:=HC.o 0 (yA p0.1) (by rw [hs];rfl);simpa using this
 have e1:w1.cell? ⟨g,off+1,yO⟩=yP (yA p0.2):=HC.o 1 (yA p0.2) (by rw [hs];rfl);have R5:(0:Int)<(m:Int):=by omega
 have bG8:(1:Int)≤(m:Int):=by omega
 have SS:0<m:=by omega
 have hdm:decide (0<m)=true:=decide_eq_true SS;have HS:=yN hs;have NP:=yN (aEO (key:=yj) bJ.o.rise hs (fun p _=>⟨p.1,(wZ _).symm⟩));clear hs;by_cases hh:p0.1=yj
 ·have ht:(ByteArray.toList p0.1).isEmpty=true:=by rw [hh];exact a01
  have HG:=yN (NP.o.1 hh);have HHH:=yN hh;have eW:tZ 300 yj tl:=⟨(yz.1 (HS.o ▸ bJ.o.rise)).2,HG.o,fun p hp=>by rw [show yj.size=0 from rfl];have:=wC.o p (by rw [HS.o];simp [hp]);omega,by decide,by have:=NQ.o;rw [HS.o] at this;simp at this;omega⟩;have rV:=yN eW;clear hh eW;have eZ:∀ (w4:World) (c:Nat),True:=fun _ _=>trivial;go_wp2_with fail;go_region;by_cases hc1:c1=1
  ·go_wp2_with fail;go_region;go_wp2_with fail;have eF:=yN (dY (ym aJ.o));refine (QJ 300 (m-1) tl _ _ rV.o (by have h9:=P2 (w:=w1.drew.drew) (g:=g) (off:=off) HM.o (by omega) j8 hcm hc1;rw [HS.o] at h9;exact h9) (by have:=HM.o;rw [HS.o] at this;simp at this;omega)).mono ?_;rintro e w3 ⟨v2,ks,rfl,hown,cH,hk3⟩;have cJ:=yN cH;obtain⟨va,vc,rfl⟩:=bW hown;have aL:=yN (show Kept w w3 from aB eF.o hk3);have HOW:=yN hown;have gS:=cH.len;have AB:=eF.o.size;have eB:=hk3.size;clear hown cH hk3;go_wp2_with fail;refine (C5 ks.length yj p0.2 true _ (ks.map Kd.b) _ (by simp) (by rw [List.map_map];exact dH HOW.o) gS (fun e=>by cases e)).mono ?_;rintro e w4 ⟨c,I1,rfl,dU,hk4⟩;rw [List.map_map] at dU;go_wp2;go_ret;refine⟨c,s,rfl,bJ.o,?_,aB aL.o hk4⟩;have h8:=(C8 (d:=300) (b:=c) (l:=s) (key:=yj) cJ.o hk4 eB dU (fun e=>by cases e) (by have h9:=RH (val:=p0.2) cJ.o.h6 cJ.o.h3;rw [HS.o];rw [← HHH.o] at h9 ⊢;exact h9)).sub (BB _ _);rw [show eM yj s=look s from by funext r;unfold eM;rw [wZ]] at h8;exact h8.mono 1000 (by decide)
  go_wp2_with fail;go_region;go_wp2_with fail;have eF:=yN (dY (ym aJ.o));refine (QJ 300 (m-1) tl _ _ rV.o (by have h9:=RJ (k:=1) (w:=w1.drew.drew) (fun j u hj=>HC.o j u hj) HM.o (by omega) j8 hcm;rw [HS.o] at h9;exact h9) (by have:=HM.o;rw [HS.o] at this;simp at this;omega)).mono ?_;rintro e w3 ⟨v2,ks,rfl,hown,cH,hk3⟩;have cJ:=yN cH;obtain⟨va,vc,rfl⟩:=bW hown;have aL:=yN (show Kept w w3 from aB eF.o hk3);have HOW:=yN hown;have gS:=cH.len;have AB:=eF.o.size;have eB:=hk3.size;clear hown cH hk3;go_wp2_with fail;refine (C5 ks.length yj p0.2 true _ (ks.map Kd.b) _ (by simp) (by rw [List.map_map];exact dH HOW.o) gS (fun e=>by cases e)).mono ?_;rintro e w4 ⟨c,I1,rfl,dU,hk4⟩;rw [List.map_map] at dU;go_wp2;go_ret;refine⟨c,s,rfl,bJ.o,?_,aB aL.o hk4⟩;have h8:=(C8 (d:=300) (b:=c) (l:=s) (key:=yj) cJ.o hk4 eB dU (fun e=>by cases e) (by have h9:=RH (val:=p0.2) cJ.o.h6 cJ.o.h3;rw [HS.o];rw [← HHH.o] at h9 ⊢;exact h9)).sub (BB _ _);rw [show eM yj s=look s from by funext r;unfold eM;rw [wZ]] at h8;exact h8.mono 1000 (by decide)
 have ht:(ByteArray.toList p0.1).isEmpty=false:=RF hh;have HG:=yN (NP.o.2 hh);have eW:tZ 300 yj s:=⟨bJ.o.rise,HG.o,fun p hp=>by rw [show yj.size=0 from rfl];have:=wC.o p hp;omega,by decide,NQ.o⟩;have rV:=yN eW;clear hh eW;go_wp2_with fail;go_region;go_wp2_with fail;have eF:=yN (dY aJ.o);refine (QJ 300 m s _ _ rV.o (show Rd w1.drew _ _ _ from eE.o) HM.o).mono ?_;rintro e w3 ⟨v2,ks,rfl,hown,cH,hk3⟩;have cJ:=yN cH;obtain⟨va,vc,rfl⟩:=bW hown;have aL:=yN (show Kept w w3 from aB eF.o hk3);have HOW:=yN hown;have gS:=cH.len;have AB:=eF.o.size;have eB:=hk3.size;clear hown cH hk3;go_wp2_with fail;refine (C5 ks.length yj yj false _ (ks.map Kd.b) _ (by simp) (by rw [List.map_map];exact dH HOW.o) gS (fun _=>rfl)).mono ?_;rintro e w4 ⟨c,I1,rfl,dU,hk4⟩;rw [List.map_map] at dU;go_wp2;go_ret;refine⟨c,s,rfl,bJ.o,?_,aB aL.o hk4⟩;have h8:=(C8 (d:=300) (b:=c) (l:=s) (key:=yj) cJ.o hk4 eB dU (fun _=>rfl) cJ.o.h6).sub (BB _ _);rw [show eM yj s=look s from by funext r;unfold eM;rw [wZ]] at h8;exact h8.mono 1000 (by decide)
end
section
theorem NA.sub {w w':World} {b data nodes:Nat} {pv kv:Value} {bk:Bool} (h:NA w b data nodes pv kv bk) (hs:Sub w w'):NA w' b data nodes pv kv bk:=
 ⟨⟨h.z.1,h.z.2.sub hs⟩,hs.cell h.c0,hs.cell h.c1,hs.cell h.c2,hs.cell h.c3,hs.cell h.c4,let ⟨o,ho⟩:=h.c5;⟨o,hs.cell ho⟩⟩
theorem NS.sub {w w':World} {b:Nat} {P:Nat→Option Pr} {Q:Nat→Option Nat} (h:NS w b P Q) (hs:Sub w w'):NS w' b P Q:=
 let ⟨data,nodes,pv,kv,h0,h1,h2,h3,h4⟩:=h;⟨data,nodes,pv,kv,h0.sub hs,h1,h2,h3.sub hs,h4.sub hs⟩
theorem NB.sub {w w':World} {b:Nat} {l:List Pr} (h:NB w b l) (hs:Sub w w'):NB w' b l:=
 let ⟨pv,kv,h0,h1,h2⟩:=h;⟨pv,kv,h0.sub hs,h1.sub hs,h2.sub hs⟩
theorem CZ.sub {w w':World} {n:Nat} {l:List Pr} {lvl b:Nat} (h:CZ w n l lvl b) (hs:Sub w w'):CZ w' n l lvl b:=by
 induction h with
 | bucket b l h0=>exact .bucket b l (h0.sub hs)
 | inner n l lvl b P Q kz hl h0 h1 h2 hn he ih=>exact .inner n l lvl b P Q kz hl (h0.sub hs) h1 ih hn he
theorem CZ.lvl {w:World} {n:Nat} {l:List Pr} {lvl b:Nat} (h:CZ w n l lvl b):lvl≤13:=by
 cases h with
 | bucket=>exact ye _
 | inner=>omega
structure Fr where
 pv:Value
 kv:Value
 pl:List Pr
 kz:List (Nat × (Nat × List Pr))
 lev:Nat
def Fr.rest (f:Fr):List Pr:=f.pl++f.kz.flatMap fun z=>z.2.2
def Fr.meas (f:Fr):Nat:=1+2*(f.kz.map fun z=>z.2.1).sum
def fS:List Fr→List Value
 | []=>[]
 | f::l=>f.pv::f.kv::fS l
theorem aU5 (l:List Fr):(fS l).length=l.length*2:=by
 induction l with
 | nil=>rfl
 | cons p l ih=>simp [fS,ih];omega
theorem aU6 (l m:List Fr):fS (l++m)=fS l++fS m:=by
 induction l with
 | nil=>rfl
 | cons f l ih=>simp [fS,ih]
structure EU (V:World) (f:Fr):Prop where
 p:Rd V f.pv f.pl.length (aK f.pl)
 k:Rd V f.kv f.kz.length (f.kz.map fun z=>ptr z.1)
 z:∀ z∈f.kz,CZ V z.2.1 z.2.2 f.lev z.1∧z.2.2.length≤1000
 pn:f.pl.length≤1000
 kn:f.kz.length≤1000
theorem EU.sub {V V':World} {f:Fr} (h:EU V f) (hs:Sub V V'):EU V' f:=
 ⟨h.p.sub hs,h.k.sub hs,fun z hz=>⟨(h.z z hz).1.sub hs,(h.z z hz).2⟩,h.pn,h.kn⟩
def Root (w:World) (rv:Value) (n:Nat) (l:List Pr) (lvl:Nat):Prop:=(∃ b,rv=yB (yP ⟨b,0,yO⟩)∧CZ w n l lvl b)∨(rv=yB yO∧n=1∧l=[])
def OfP (V w:World) (n:Nat) (l:List Pr) (lvl:Nat) (e:Ending) (w':World):Prop:=
 ∃ f:Fr,e = .returned (yF #[f.pv,f.kv])∧w'.ownsRow w.heap.size 52 2 f.pv f.pl.length (aK f.pl)∧w'.ownsRow w.heap.size 176 1 f.kv f.kz.length (f.kz.map fun z=>ptr z.1)∧
  (∀ z∈f.kz,CZ V z.2.1 z.2.2 f.lev z.1∧z.2.2.length≤1000)∧f.pl.length≤1000∧f.kz.length≤1000∧f.lev=lvl+1∧f.rest=l∧f.meas+1=2*n∧Kept w w'
theorem a02 {α:Type} {l:List α} {g:α→List Pr} {x:α} (h:x∈l):(g x).length≤(l.flatMap g).length:=by
 induction l with
 | nil=>cases h
 | cons y l ih=>
  rw [List.flatMap_cons,yy];rcases yx.1 h with rfl | h
  ·omega
  have:=ih h;omega
theorem aIJ (V:World) (b d m np nk:Nat) (pv kv:Value) (bk:Bool) (ps ks:List Value) (w:World) (h:NA w b d m pv kv bk) (hp:Rd w pv np ps) (hk:Rd w kv nk ks) (hpl:ps.length=np*2) (B6:ks.length=nk*1) (hn:np≤1000) (j5:nk≤1000) (h1:∀ u∈ps,u.oneCell'=true) (h2:∀ u∈ks,u.oneCell'=true) :
  Calls yM 389 #[yB (yP ⟨b,0,yO⟩)] w fun e w'=>∃ v u,e = .returned (yF #[v,u])∧w'.ownsRow w.heap.size 52 2 v np ps∧w'.ownsRow w.heap.size 176 1 u nk ks∧Kept w w':=by
 obtain⟨aA,hb⟩:=aW w (yL #[yC yO 0 0,yC yO 0 0] 469);have H:=yN (h.kept aA);have HP:=yN (hp.kept aA);have HK:=yN (hk.kept aA);have HA:=yN aA;have HB:=yN hb;have H1:=yN (yd h1 h2);clear h hp hk aA hb h1 h2;go_enter func389,ntmps389;go_wp2_with fail;generalize w.alloc _=w1 at *;obtain⟨rb,aQ⟩:∃ rb,rb=w.heap.size:=⟨_,rfl⟩;rw [← aQ] at HB ⊢;have eT:=yN aQ;clear aQ;refine (J6 b d m np pv kv bk ps _ H.o HP.o hpl (by omega) H1.o.1).mono ?_;rintro e w2 ⟨v,rfl,gH,aS⟩;have eE:=yN gH;have aJ:=yN aS;clear gH aS;go_wp2_with fail;refine (a0H b d m nk pv kv bk ks _ (H.o.kept aJ.o) (HK.o.kept aJ.o) B6 (by omega) H1.o.2).mono ?_;rintro e w3 ⟨u,rfl,cI,hk2⟩;have hb3:=(aB aJ.o hk2).block rb (yo.1 HB.o).1 |>.trans HB.o
 have z0:w3.cell? ⟨rb,0,yO⟩=yP (yC yO 0 0):=aG hb3 rfl;have z1:w3.cell? ⟨rb,1,yO⟩=yP (yC yO 0 0):=aG hb3 rfl;have f0:w3.frozen? ⟨rb,0,yO⟩=false:=aU hb3;have f1:w3.frozen? ⟨rb,1,yO⟩=false:=aU hb3;obtain⟨av,cv,rfl⟩:=bW eE.o;obtain⟨au,cu,rfl⟩:=bW cI;have dZ:=yN cI;have aH:=yN hk2;have NT:=yN hb3;clear cI hk2 hb3;go_wp2_with fail
 (try simp only [Exit.inBlock,Exit.then])
 have hh:=heap_setCell (o:=1) (v:=yC au nk cu) (heap_setCell (o:=0) (v:=yC av np cv) NT.o);refine bodyPost_ret (eQ rfl rfl hh underlying469 rfl (by kernel_rfl)) rfl ?_;have k12:=aB aJ.o aH.o;have cR:=HA.o.size;have hrw:w.heap.size≤w1.heap.size:=cR;have R3:=bT eE.o aH.o;have hw2:=aJ.o.size;refine⟨_,_,rfl,?_,?_,?_⟩
 ·refine dG (cF R3 fun g hg=>?_) hrw;have hne:g≠rb:=fun e=>fR R3 NT.o (by decide) (hg.trans (by rw [e]));rw [yl _ _ _ _ hne,yl _ _ _ _ hne]
 ·refine dG (cF dZ.o fun g hg=>?_) (yf hrw hw2);have hne:g≠rb:=fun e=>fR dZ.o NT.o (by decide) (hg.trans (by rw [e]));rw [yl _ _ _ _ hne,yl _ _ _ _ hne]
 exact Below.setCell (Below.setCell (aB HA.o k12) (by rw [eT.o];exact ye _) _) (by rw [eT.o];exact ye _) _
theorem a3L (w:World) :
  Calls yM 389 #[yB yO] w fun e w'=>e = .returned (yF #[yC yO 0 0,yC yO 0 0])∧Kept w w':=by
 obtain⟨aA,hb⟩:=aW w (yL #[yC yO 0 0,yC yO 0 0] 469);have HA:=yN aA;have HB:=yN hb;go_enter func389,ntmps389;go_wp2_with fail;refine (aUL _).mono ?_;rintro e w2 ⟨rfl,rfl⟩;go_wp2_with fail;refine (aXX _).mono ?_;rintro e w3 ⟨rfl,rfl⟩;go_wp2_with fail
 (try simp only [Exit.inBlock,Exit.then])
 refine bodyPost_ret (eQ rfl rfl HB.o underlying469 rfl (by kernel_rfl)) rfl ?_;exact⟨rfl,HA.o⟩
theorem XN (V w:World) (rv:Value) (n:Nat) (l:List Pr) (lvl:Nat) (hr:Root V rv n l lvl) (hs:Sub V w) (hl:l.length≤1000):Calls yM 389 #[rv] w (OfP V w n l lvl):=by
 rcases hr with ⟨b,rfl,hz⟩ | ⟨rfl,rfl,rfl⟩
 ·cases hz with
  | bucket b l h0=>
   obtain⟨pv,kv,h0,h1,h2⟩:=h0.sub hs;refine (aIJ V b 0 0 l.length 0 pv kv true _ [] w h0 h1 h2 (lG l) rfl hl (by decide) (nQ l) (by intro u hu;cases hu)).mono ?_;rintro e w' ⟨v,u,rfl,h3,h4,h5⟩;exact⟨⟨v,u,l,[],14⟩,rfl,h3,h4,by simp,hl,by simp,rfl,by simp [Fr.rest],rfl,h5⟩
  | inner n l lvl b P Q kz hl' h0 h1 h2 hn he=>
   obtain⟨data,nodes,pv,kv,a0,a1,a2,a3,a4⟩:=h0.sub hs;have e1:(aT Q).map ptr=kz.map fun z=>ptr z.1:=by rw [← h1,List.map_map];rfl
   have e2:(aT Q).length=kz.length:=by rw [← h1,List.length_map]
   have hpl:=qH P;have hql:=qH Q
   refine (aIJ V b data nodes (aT P).length (aT Q).length pv kv false _ _ w a0 a3 a4 (lG _) (by simp) (by omega) (by omega) (nQ _) (by
    intro u hu;obtain⟨x,_,rfl⟩:=zj.1 hu
    rfl)).mono ?_
   rintro e w' ⟨v,u,rfl,h3,h4,h5⟩;rw [e1,e2] at h4;refine⟨⟨v,u,aT P,kz,lvl+1⟩,rfl,h3,h4,fun z hz=>⟨h2 z hz,?_⟩,by show (aT P).length≤1000;omega,by show kz.length≤1000;omega,rfl,he.symm,?_,h5⟩
   ·have:=a02 (g:=fun z:Nat × (Nat × List Pr)=>z.2.2) hz;dsimp only at this;rw [he,yy] at hl;omega
   show 1+2*(kz.map fun z=>z.2.1).sum+1=2*n;omega
 refine (a3L w).mono ?_;rintro e w' ⟨rfl,h5⟩;exact⟨⟨yC yO 0 0,yC yO 0 0,[],[],lvl+1⟩,rfl,World.ownsRow_nil _ _ _ _,World.ownsRow_nil _ _ _ _,by simp,by simp,by simp,rfl,rfl,rfl,h5⟩
end
section
variable {cs xs:List Value} {g n cap B k cb size base rb gP:Nat} {e:TypeId} {w W W1 W2 wr:World} {wv v:Value} {Y Y':Nat→Bool} {d:Int}
theorem V2 {j:Nat} (h:w.ownsRow B e k (yC (yP ⟨g,0,yO⟩) n cap) n cs) (u:Value):(w.setCell ⟨g,j,yO⟩ u).ownsRow B e k (yC (yP ⟨g,0,yO⟩) n cap) n (cs.set j u):=by
 refine⟨by rw [List.length_set];exact h.1,.inr ?_⟩;rcases h.2 with ⟨h1,_⟩ | ⟨g',cap',cur,e1,hb,hh,h1,h2,h3,h4⟩
 ·cases h1
 cases e1;refine⟨g,cap,_,rfl,hb,heap_setCell hh,h1,h2,by simp [h3],?_⟩;rw [Array.toList_setIfInBounds,List.take_set,h4]
def kI:List Fr→List Pr
 | []=>[]
 | f::l=>f.rest++kI l
def measS:List Fr→Nat
 | []=>0
 | f::l=>f.meas+measS l
def NU:List Fr→Prop
 | []=>True
 | f::l=>l.length<f.lev∧f.lev≤14∧NU l
theorem NU.len {l:List Fr} (h:NU l):l.length≤14:=by
 cases l with
 | nil=>exact yg _
 | cons f l=>have:=h.1;have:=h.2.1;simp;omega
theorem oQ (f:Fr) (l:List Fr):fS (f::l).reverse=fS l.reverse ++ [f.pv,f.kv]:=by
 rw [List.reverse_cons,aU6];rfl
theorem wW (l:List Fr):(fS l.reverse).length=l.length*2:=by rw [aU5,List.length_reverse]
theorem aSU (f:Fr) (l:List Fr) (v:Value):(fS (f::l).reverse).set (l.length*2) v=fS (({ f with pv:=v } : Fr)::l).reverse:=by
 rw [oQ,oQ,List.set_append_right _ _ (by rw [wW];exact ye _),wW,Nat.sub_self];rfl
theorem aE7 (f:Fr) (l:List Fr) (v:Value):(fS (f::l).reverse).set (l.length*2+1) v=fS (({ f with kv:=v } : Fr)::l).reverse:=by
 rw [oQ,oQ,List.set_append_right _ _ (by rw [wW];omega),wW,Nat.add_sub_cancel_left];rfl
theorem aSV (f:Fr) (l:List Fr):(fS (f::l).reverse)[l.length*2]?=yP f.pv:=by
 rw [oQ,List.getElem?_append_right (by rw [wW];exact ye _),wW,Nat.sub_self];rfl
theorem aSW (f:Fr) (l:List Fr):(fS (f::l).reverse)[l.length*2+1]?=yP f.kv:=by
 rw [oQ,List.getElem?_append_right (by rw [wW];omega),wW,Nat.add_sub_cancel_left];rfl
theorem aU7 (f:Fr) (l:List Fr):(fS (f::l).reverse).take (l.length*2)=fS l.reverse:=by
 rw [oQ,List.take_append_of_le_length (by rw [wW];exact ye _),List.take_of_length_le (by rw [wW];exact ye _)]
structure Cur (B:Nat) (Y:Nat→Bool) (W:World) (cb:Nat) (wv:Value) (st:List Fr):Prop where
 c:∃ d:Int,W.heap[cb]?=yP (yL #[wv,yE yH d] 473)
 way:W.ownsRow B 469 2 wv st.length (fS st.reverse)
 fr:∀ f∈st,EU (bO Y W) f
 yc:Y cb=false
 yw:∀ g,wv.ownBlock=yP g→Y g=false
 ys:∀ i,Y i=true→i<W.heap.size
 b:B≤cb
 lev:NU st
theorem a3M:(yM.info? 469).map (fun i=>(i.zero,i.size,i.bytes))=yP (yP (yF #[yC yO 0 0,yC yO 0 0]),2,48):=by kernel_rfl
structure dR (cb:Nat) (wv:Value) (Y:Nat→Bool) (W:World) (fJ:Value) (Y':Nat→Bool) (W':World):Prop where
 os:W'.os=W.os
 tape:W'.tape=W.tape
 output:W'.output=W.output
 size:W.heap.size≤W'.heap.size
 same:∀ i,i<W.heap.size→i≠cb→wv.ownBlock≠yP i→W'.heap[i]?=W.heap[i]?
 new:∀ i,Y' i=true→Y i=true∨W.heap.size≤i
 way:∀ g,fJ.ownBlock=yP g→wv.ownBlock=yP g∨W.heap.size≤g
theorem dR.refl (cb:Nat) (wv:Value) (Y:Nat→Bool) (W:World):dR cb wv Y W wv Y W:=
 ⟨rfl,rfl,rfl,ye _,fun _ _ _ _=>rfl,fun _ h=>.inl h,fun _ h=>.inl h⟩
theorem dR.trans {cb:Nat} {wv I2 uO:Value} {Y Y1 Y2:Nat→Bool} {W W1 W2:World} (h:dR cb wv Y W I2 Y1 W1) (g:dR cb I2 Y1 W1 uO Y2 W2):dR cb wv Y W uO Y2 W2:=by
 have hs:=h.size;refine⟨g.os.trans h.os,g.tape.trans h.tape,g.output.trans h.output,yf h.size g.size,fun i hi hc hw=>?_,fun i hi=>?_,fun q hq=>?_⟩;·rw [g.same i (by omega) hc (fun e=>by rcases h.way i e with e | e;exact hw e;omega),h.same i hi hc hw]
 ·rcases g.new i hi with e | e
  ·exact h.new i e
  exact .inr (by omega)
 rcases g.way q hq with e | e
 ·exact h.way q e
 exact .inr (by omega)
def a5M (B:Nat) (Y:Nat→Bool) (W:World) (cb:Nat) (wv:Value) (st:List Fr) (e:Ending) (W':World):Prop:=
 ∃ Y' fJ gK,Cur B Y' W' cb fJ gK∧dR cb wv Y W fJ Y' W'∧
  ((kI st=[]∧e = .returned (.tuple #[yF #[yA ⟨#[]⟩,yA ⟨#[]⟩],yD false]))∨
   ∃ p,kI st=p::kI gK∧e = .returned (.tuple #[yF #[yA p.1,yA p.2],yD true]))
theorem Cur.lt {st:List Fr} (h:Cur B Y W cb wv st):cb<W.heap.size:=by
 obtain⟨d,hd⟩:=h.c;exact (yo.1 hd).1
theorem Cur.sU {st:List Fr} (h:Cur B Y W cb wv st) {i:Nat} (hi:Y i=true∨i=cb∨wv.ownBlock=yP i):i<W.heap.size:=by
 rcases hi with hi | rfl | hi
 ·exact h.ys i hi
 ·exact h.lt
 exact (h.way.lt i hi).2
theorem Cur.stays {W':World} {st:List Fr} (h:Cur B Y W cb wv st) (hk:∀ i,(Y i=true∨i=cb∨wv.ownBlock=yP i)→W'.heap[i]?=W.heap[i]?) (hs:W.heap.size≤W'.heap.size):Cur B Y W' cb wv st:=
 ⟨let ⟨d,hd⟩:=h.c;⟨d,(hk cb (.inr (.inl rfl))).trans hd⟩,cF h.way fun g hg=>hk g (.inr (.inr hg)),fun f hf=>(h.fr f hf).sub (oT (fun i hi=>hi) fun i hi _=>hk i (.inl hi)),h.yc,h.yw,fun i hi=>yi (h.ys i hi) hs,h.b,h.lev⟩
theorem dR.more {I2 uO:Value} {Y1 Y2:Nat→Bool} (h:dR cb wv Y W I2 Y1 W1) (ho:W2.os=W1.os) (ht:W2.tape=W1.tape) (hu:W2.output=W1.output) (hs:W1.heap.size≤W2.heap.size)
  (same:∀ i,i<W.heap.size→i≠cb→I2.ownBlock≠yP i→W2.heap[i]?=W1.heap[i]?) (new:∀ i,Y2 i=true→Y1 i=true∨W1.heap.size≤i) (way:∀ g,uO.ownBlock=yP g→I2.ownBlock=yP g∨W1.heap.size≤g):dR cb wv Y W uO Y2 W2:=by
 have hz:=h.size;refine⟨ho.trans h.os,ht.trans h.tape,hu.trans h.output,yf hz hs,fun i hi hc hw=>?_,fun i hi=>?_,fun q hq=>?_⟩;·rw [same i hi hc (fun e=>by rcases h.way i e with e | e;exact hw e;omega),h.same i hi hc hw]
 ·rcases new i hi with e | e
  ·exact h.new i e
  exact .inr (by omega)
 rcases way q hq with e | e
 ·exact h.way q e
 exact .inr (by omega)
theorem QK (h:Kept W W1):dR cb wv Y W wv Y W1:=
 (dR.refl cb wv Y W).more h.os h.tape h.output h.size (fun i hi _ _=>h.block i hi) (fun _ h=>.inl h) (fun _ h=>.inl h)
theorem V3 (h:W.ownsRow base e size v (k+1) xs):∃ g cap,v=yC (yP ⟨g,0,yO⟩) (k+1) cap:=by
 rcases h.2 with ⟨_,h⟩ | ⟨g,cap,_,rfl,_⟩
 ·cases h
 exact⟨g,cap,rfl⟩
theorem Cur.depth {st:List Fr} (h:Cur B Y W cb wv st) (hc:W2.heap[cb]?=yP (yL #[wv,yE yH d] 473)) (hs:W.heap.size≤W2.heap.size)
  (hk:∀ i,(Y i=true∨wv.ownBlock=yP i)→W2.heap[i]?=W.heap[i]?):Cur B Y W2 cb wv st:=
 ⟨⟨d,hc⟩,cF h.way fun g hg=>hk g (.inr hg),fun f hf=>(h.fr f hf).sub (oT (fun i hi=>hi) fun i hi _=>hk i (.inl hi)),h.yc,h.yw,fun i hi=>yi (h.ys i hi) hs,h.b,h.lev⟩
theorem aU8 {w':World} {o:Nat} {cur:Array Value} (hg:w.heap[g]?=yP (yL cur e (0,0))) (h:w'.heap[g]?=w.heap[g]?):(w'.setCell ⟨g,o,yO⟩ v).heap[g]?=(w.setCell ⟨g,o,yO⟩ v).heap[g]?:=by
 rw [heap_setCell (h.trans hg),heap_setCell hg]
theorem aEP (wr:World) (p:Pr) (cb rb g o:Nat) (x nv wv:Value) (d e:Int) (hcb:wr.heap[cb]?=yP (yL #[wv,yE yH d] 473)) (aQ:wr.heap[rb]?=yP (yL #[yA ⟨#[]⟩,yA ⟨#[]⟩] 52))
  (cur:Array Value) (hg:wr.heap[g]?=yP (yL cur 469 (0,0))) (hx:wr.cell? ⟨g,o,yO⟩=yP x) (n1:g≠cb) (n2:g≠rb) (n3:rb≠cb) :
  ∃ WA WB WC WD WE:World,WA=wr.alloc (yL #[yA p.1,yA p.2] 52)∧WB=WA.setCell ⟨g,o,yO⟩ nv∧WC=WB.setCell ⟨cb,1,yO⟩ (yE yH e)∧WD=WC.setCell ⟨rb,0,yO⟩ (yA p.1)∧WE=WD.setCell ⟨rb,1,yO⟩ (yA p.2)∧
   WA.cell? ⟨g,o,yO⟩=yP x∧WA.frozen? ⟨g,o,yO⟩=false∧WB.cell? ⟨cb,0,yO⟩=yP wv∧WB.cell? ⟨cb,1,yO⟩=yP (yE yH d)∧WB.frozen? ⟨cb,1,yO⟩=false∧
   WC.cell? ⟨wr.heap.size,0,yO⟩=yP (yA p.1)∧WC.cell? ⟨wr.heap.size,1,yO⟩=yP (yA p.2)∧WC.cell? ⟨rb,0,yO⟩=yP (yA ⟨#[]⟩)∧WC.frozen? ⟨rb,0,yO⟩=false∧WD.cell? ⟨rb,1,yO⟩=yP (yA ⟨#[]⟩)∧WD.frozen? ⟨rb,1,yO⟩=false∧
   WE.heap[rb]?=yP (yL #[yA p.1,yA p.2] 52)∧WE.heap[cb]?=yP (yL #[wv,yE yH e] 473)∧WE.heap[g]?=(wr.setCell ⟨g,o,yO⟩ nv).heap[g]?∧(∀ i,i<wr.heap.size→i≠g→i≠cb→i≠rb→WE.heap[i]?=wr.heap[i]?)∧WE.heap.size=wr.heap.size+1:=by
 have lg:=(yo.1 hg).1;have lc:=(yo.1 hcb).1;have lr:=(yo.1 aQ).1;obtain⟨WA,hA⟩:∃ W,W=wr.alloc (yL #[yA p.1,yA p.2] 52):=⟨_,rfl⟩;have bA:∀ i,i<wr.heap.size→WA.heap[i]?=wr.heap[i]?:=fun i hi=>by rw [hA];exact Below.heap_alloc wr _ i hi
 have nA:WA.heap[wr.heap.size]?=yP (yL #[yA p.1,yA p.2] 52):=by rw [hA];exact bM wr _
 have sA:WA.heap.size=wr.heap.size+1:=by rw [hA];exact World.size_alloc _ _
 obtain⟨WB,hB⟩:∃ W,W=WA.setCell ⟨g,o,yO⟩ nv:=⟨_,rfl⟩;have bB:∀ i,i≠g→WB.heap[i]?=WA.heap[i]?:=fun i hi=>by rw [hB];exact yl _ _ _ _ (by simpa using hi)
 obtain⟨WC,hC⟩:∃ W,W=WB.setCell ⟨cb,1,yO⟩ (yE yH e):=⟨_,rfl⟩;have bC:∀ i,i≠cb→WC.heap[i]?=WB.heap[i]?:=fun i hi=>by rw [hC];exact yl _ _ _ _ (by simpa using hi)
 obtain⟨WD,hD⟩:∃ W,W=WC.setCell ⟨rb,0,yO⟩ (yA p.1):=⟨_,rfl⟩;have bD:∀ i,i≠rb→WD.heap[i]?=WC.heap[i]?:=fun i hi=>by rw [hD];exact yl _ _ _ _ (by simpa using hi)
 obtain⟨WE,hE⟩:∃ W,W=WD.setCell ⟨rb,1,yO⟩ (yA p.2):=⟨_,rfl⟩;have bE:∀ i,i≠rb→WE.heap[i]?=WD.heap[i]?:=fun i hi=>by rw [hE];exact yl _ _ _ _ (by simpa using hi)
 have gA:=(bA g lg).trans hg;have cB:=(bB cb n1.symm).trans ((bA cb lc).trans hcb);have cC:WC.heap[cb]?=yP (yL #[wv,yE yH e] 473):=by rw [hC];exact heap_setCell cB
 have aC:=(bC wr.heap.size (by omega)).trans ((bB wr.heap.size (by omega)).trans nA);have rC:=(bC rb n3).trans ((bB rb n2.symm).trans ((bA rb lr).trans aQ));have rD:WD.heap[rb]?=yP (yL #[yA p.1,yA ⟨#[]⟩] 52):=by rw [hD];exact heap_setCell rC
 have rE:WE.heap[rb]?=yP (yL #[yA p.1,yA p.2] 52):=by rw [hE];exact heap_setCell rD
 refine⟨WA,WB,WC,WD,WE,hA,hB,hC,hD,hE,?_,aU gA,aG cB rfl,aG cB rfl,aU cB,aG aC rfl,aG aC rfl,aG rC rfl,aU rC,aG rD rfl,aU rD,rE,?_,?_,?_,?_⟩;·rw [← hx];exact zn (bA g lg)
 ·rw [bE cb n3.symm,bD cb n3.symm];exact cC
 ·rw [bE g n2,bD g n2,bC g n1,hB];exact aU8 hg (bA g lg)
 ·intro i hi h1 h2 h3;rw [bE i h3,bD i h3,bC i h2,bB i h1,bA i hi]
 rw [hE,hD,hC,hB];simp only [World.setCell,Array.size_modify];exact sA
theorem P7 {off:Nat} (hc:∀ j u,cs[j]?=yP u→w.cell? ⟨g,off+j,yO⟩=yP u) (hl:cs.length=(n+1)*k) (kQ:n+1≤cap) (hm:cap≤maxLen):Rd w (yC (yP ⟨g,off+k,yO⟩) n (cap-1)) n (cs.drop k):=by
 cases n with
 | zero=>exact .inl ⟨_,_,rfl,by omega,rfl,List.drop_eq_nil_of_le (by omega)⟩
 | succ n=>
  refine .inr ⟨g,off+k,cap-1,rfl,by omega,by omega,by omega,fun j u hj=>?_⟩;rw [List.getElem?_drop] at hj;have:=hc _ _ hj
  rwa [show off+(k+j)=off+k+j by omega] at this
theorem aIK (h:W.ownsRow base e size (yC (yP ⟨g,0,yO⟩) n cap) n xs):n≤cap:=by
 rcases h.2 with ⟨h,_⟩ | ⟨g',cap',_,e,_,_,h,_⟩
 ·cases h
 cases e;exact h
theorem a03 {fJ:Value} (HC:Cur B Y' wr cb fJ []) (HS:dR cb wv Y W fJ Y' wr) (aQ:W.heap.size≤rb) (hy:Y' rb=false) (hw:fJ.ownBlock≠yP rb) (z2:W2.heap[cb]?=yP (yL #[fJ,yE yH d] 473))
  (z4:∀ i,i≠cb→i≠rb→W2.heap[i]?=wr.heap[i]?) (z5:W2.heap.size=wr.heap.size) (ho:W2.os=wr.os) (ht:W2.tape=wr.tape) (hu:W2.output=wr.output):Cur B Y' W2 cb fJ []∧dR cb wv Y W fJ Y' W2:=by
 refine⟨HC.depth z2 (by omega) fun i hi=>z4 i (fun e=>?_) (fun e=>?_),HS.more ho ht hu (by omega) (fun i hi h1 _=>z4 i h1 (by omega)) (fun _ h=>.inl h) (fun _ h=>.inl h)⟩
 ·subst e;rcases hi with hi | hi
  ·rw [HC.yc] at hi;cases hi
  obtain⟨d0,hd⟩:=HC.c;exact fR HC.way hd (by decide) hi
 subst e;rcases hi with hi | hi
 ·rw [hy] at hi;cases hi
 exact hw hi
theorem aHF {WE:World} {nv:Value} {st tl:List Fr} {f:Fr} {p:Pr} {mP:List Pr} {e:Int}
  (HC:Cur B Y' wr cb (yC (yP ⟨g,0,yO⟩) (f::tl).length gP) (f::tl)) (HS:dR cb wv Y W (yC (yP ⟨g,0,yO⟩) (f::tl).length gP) Y' wr) (hrs:kI (f::tl)=kI st) (hpl:f.pl=p::mP)
  (I3:Rd (bO Y' wr) nv mP.length (aK mP)) (aQ:W.heap.size≤rb) (hy:Y' rb=false) (z2:WE.heap[cb]?=yP (yL #[yC (yP ⟨g,0,yO⟩) (f::tl).length gP,yE yH e] 473))
  (z3:WE.heap[g]?=(wr.setCell ⟨g,tl.length*2,yO⟩ nv).heap[g]?) (z4:∀ i,i<wr.heap.size→i≠g→i≠cb→i≠rb→WE.heap[i]?=wr.heap[i]?) (z5:WE.heap.size=wr.heap.size+1) (ho:WE.os=wr.os) (ht:WE.tape=wr.tape) (hu:WE.output=wr.output) :
  ∃ Y2 uO gZ,Cur B Y2 WE cb uO gZ∧dR cb wv Y W uO Y2 WE∧kI st=p::kI gZ:=by
 have j4:Sub (bO Y' wr) (bO Y' WE):=oT (fun i hi=>hi) fun i hi _=>z4 i (HC.ys i hi) (fun e=>by rw [e,HC.yw g rfl] at hi;cases hi) (fun e=>by rw [e,HC.yc] at hi;cases hi) (fun e=>by rw [e,hy] at hi;cases hi);refine⟨Y',yC (yP ⟨g,0,yO⟩) (f::tl).length gP,({ f with pv:=nv,pl:=mP } : Fr)::tl,⟨⟨e,z2⟩,?_,?_,HC.yc,HC.yw,fun i hi=>by have:=HC.ys i hi;omega,HC.b,HC.lev⟩,?_,?_⟩
 ·have h1:=V2 (j:=tl.length*2) HC.way nv;rw [aSU] at h1;have e1:fS (({ f with pv:=nv,pl:=mP } : Fr)::tl).reverse=fS (({ f with pv:=nv } : Fr)::tl).reverse:=by rw [oQ,oQ]
  rw [e1];exact cF h1 fun q hq=>by cases hq;exact z3
 ·intro x hx;rcases yx.1 hx with rfl | hx
  ·have hf:=HC.fr f (by simp);have hn:=hf.pn;rw [hpl,zh] at hn;exact⟨I3.sub j4,hf.k.sub j4,fun z hz=>⟨((hf.z z hz).1).sub j4,(hf.z z hz).2⟩,by show mP.length≤1000;omega,hf.kn⟩
  exact (HC.fr x (by simp [hx])).sub j4
 ·refine HS.more ho ht hu (by omega) (fun i hi h1 h2=>z4 i (by have:=HS.size;omega) (fun e=>h2 (by rw [e];rfl)) h1 (by omega)) (fun _ h=>.inl h) (fun _ h=>.inl h)
 rw [← hrs];simp [kI,Fr.rest,hpl]
theorem a04 {tl:List Fr} {f:Fr}
  (HC:Cur B Y' wr cb (yC (yP ⟨g,0,yO⟩) (f::tl).length gP) (f::tl)) (HS:dR cb wv Y W (yC (yP ⟨g,0,yO⟩) (f::tl).length gP) Y' wr) (z2:W2.heap[cb]?=yP (yL #[yC (yP ⟨g,0,yO⟩) tl.length gP,yE yH d] 473))
  (z4:∀ i,i≠cb→W2.heap[i]?=wr.heap[i]?) (z5:W2.heap.size=wr.heap.size) (ho:W2.os=wr.os) (ht:W2.tape=wr.tape) (hu:W2.output=wr.output) :
  Cur B Y' W2 cb (yC (yP ⟨g,0,yO⟩) tl.length gP) tl∧dR cb wv Y W (yC (yP ⟨g,0,yO⟩) tl.length gP) Y' W2:=by
 have xQ:g≠cb:=fun e=>by
  obtain⟨d0,hd⟩:=HC.c;exact fR HC.way hd (by decide) (by rw [e];rfl)
 refine⟨⟨⟨d,z2⟩,?_,fun x hx=>(HC.fr x (by simp [hx])).sub (oT (fun i hi=>hi) fun i hi _=>z4 i (fun e=>by rw [e,HC.yc] at hi;cases hi)),HC.yc,HC.yw,fun i hi=>by have:=HC.ys i hi;omega,HC.b,HC.lev.2.2⟩,?_⟩
 ·have h1:=WU (m:=tl.length) HC.way (by simp);rw [aU7] at h1;exact cF h1 fun q hq=>by cases hq;exact z4 _ xQ
 exact HS.more ho ht hu (by omega) (fun i _ h1 _=>z4 i h1) (fun _ h=>.inl h) (fun q h=>.inl (by cases h;rfl))
theorem aHG {b1:Nat} {w4 w7:World} {v':Value} {fN f':Fr} {tl:List Fr} (pN:∀ x∈f'::tl,EU (bO Y wr) x) (EC:Y cb=false) (hys:∀ i,Y i=true→i<wr.heap.size) (hb:B≤cb) (zD:NU (fN::f'::tl))
  (hc:w7.heap[cb]?=yP (yL #[v',yE yH d] 473)) (a8D:w7.ownsRow B 469 2 v' (tl.length+2) (fS (fN::f'::tl).reverse))
  (hp:w4.ownsRow b1 52 2 fN.pv fN.pl.length (aK fN.pl)) (hk:w4.ownsRow b1 176 1 fN.kv fN.kz.length (fN.kz.map fun z=>ptr z.1)) (hz:∀ z∈fN.kz,CZ (bO Y wr) z.2.1 z.2.2 fN.lev z.1∧z.2.2.length≤1000) (sQ:fN.pl.length≤1000) (sP:fN.kz.length≤1000)
  (hb1:wr.heap.size≤b1) (h1:∀ i,Y i=true→w7.heap[i]?=wr.heap[i]?) (h2:∀ i,b1≤i→i<w4.heap.size→w7.heap[i]?=w4.heap[i]?) (hs:w4.heap.size≤w7.heap.size) (hs2:b1≤w4.heap.size) (hv':∀ q,v'.ownBlock=yP q→(Y q=false∧q<wr.heap.size)∨w4.heap.size≤q) (hcb:cb<wr.heap.size) :
  Cur B (fun i=>Y i || (decide (b1≤i) && decide (i<w4.heap.size))) w7 cb v' (fN::f'::tl):=by
 have j4:Sub (bO Y wr) (bO (fun i=>Y i || (decide (b1≤i) && decide (i<w4.heap.size))) w7):=oT (fun i hi=>by simp [hi]) fun i hi _=>h1 i hi;have rW:∀ {e:TypeId} {k:Nat} {v:Value} {m:Nat} {cs:List Value},w4.ownsRow b1 e k v m cs→Rd (bO (fun i=>Y i || (decide (b1≤i) && decide (i<w4.heap.size))) w7) v m cs:=fun {e k v m cs} h=>by
  refine (XK (X:=fun i=>decide (b1≤i)) h (fun i hi=>by simpa using hi)).sub ?_;refine BG fun i a1 a3=>?_;have a4:b1≤i:=by simpa using a1
  exact⟨by simp [a4,a3],h2 _ a4 a3⟩
 refine⟨⟨d,hc⟩,a8D,fun x hx=>?_,?_,fun q hq=>?_,fun i hi=>?_,hb,zD⟩
 ·rcases yx.1 hx with rfl | hx
  ·exact⟨rW hp,rW hk,fun z hz'=>⟨((hz z hz').1).sub j4,(hz z hz').2⟩,sQ,sP⟩
  exact (pN x hx).sub j4
 ·simp [EC];omega
 ·rcases hv' q hq with ⟨a,b⟩ | a
  ·simp [a];omega
  have:Y q=false:=by
   cases e:Y q with
   | false=>rfl
   | true=>have:=hys q e;omega
  simp [this];omega
 simp at hi;rcases hi with hi | ⟨_,hi⟩
 ·have:=hys i hi;omega
 omega
theorem Cur.drew {B:Nat} {Y:Nat→Bool} {W:World} {cb:Nat} {wv:Value} {st:List Fr} (h:Cur B Y W cb wv st):Cur B Y W.drew cb wv st:=h.stays (fun i _=>rfl) (ye _)
theorem dR.drew {cb:Nat} {wv fJ:Value} {Y Y':Nat→Bool} {W W':World} (h:dR cb wv Y W fJ Y' W'):dR cb wv Y W fJ Y' W'.drew:=⟨h.os,h.tape,h.output,h.size,h.same,h.new,h.way⟩
theorem aD8 (w:World) (x y:Value) (t:TypeId):∀ j u,[x,y][j]?=yP u→(w.alloc (yL #[x,y] t)).cell? ((⟨w.heap.size,0,yO⟩:Addr).add j)=yP u:=by
 intro j u hj;rw [Addr.add_lit];refine aG (bM w _) ?_;rw [Nat.zero_add];simpa using hj
theorem aF5 (h:W.ownsRow base e size v k xs) (hk:0<k):∃ g cap,v=yC (yP ⟨g,0,yO⟩) k cap:=by
 rcases h.2 with ⟨_,h⟩ | ⟨g,cap,_,rfl,_⟩
 ·omega
 exact⟨g,cap,rfl⟩
theorem aYI (B:Nat) (Y:Nat→Bool) (W:World) (cb:Nat) (wv:Value) (st:List Fr) (h:Cur B Y W cb wv st) (hBs:B≤W.heap.size) :
  Calls yM 325 #[yB (yP ⟨cb,0,yO⟩)] W (a5M B Y W cb wv st):=by
 obtain⟨i0,bS,hz0,hzs,hzb⟩:=info_parts a3M;have a8E:cb<W.heap.size:=h.lt;obtain⟨aA,hb⟩:=aW W (yL #[yA ⟨#[]⟩,yA ⟨#[]⟩] 52);have HA:=yN aA;have HB:=yN hb;have H:=yN h;clear h aA hb;go_enter func325,ntmps325;go_wp2_with fail;generalize W.alloc _=w1 at *;obtain⟨rb,aQ⟩:∃ rb,rb=W.heap.size:=⟨_,rfl⟩;rw [← aQ] at HB ⊢;have eT:=yN aQ;clear aQ
 go_loopg [4] (measS st) (fun kx s4 wr=>∃ (Y':Nat→Bool) (fJ:Value) (gK:List Fr),Hid (measS gK≤kx)∧Hid (Cur B Y' wr cb fJ gK)∧Hid (dR cb wv Y W fJ Y' wr)∧Hid (kI gK=kI st)∧
  Hid (wr.heap[rb]?=yP (yL #[yA ⟨#[]⟩,yA ⟨#[]⟩] 52))∧Hid (Y' rb=false))
 case atStart=>exact⟨Y,wv,st,yN (ye _),yN (H.o.stays (fun i hi=>HA.o.block i (H.o.sU hi)) HA.o.size),yN (QK HA.o),yN rfl,HB,yN (by
  cases e:Y rb with
  | false=>rfl
  | true=>have:=H.o.ys _ e;have:=eT.o;omega)⟩
 obtain⟨Y',fJ,gK,HM,HC,HS,sV,k8,HY⟩:=hrel;obtain⟨d,hcell⟩:=HC.o.c;obtain⟨wa,gP,rfl⟩:=bW HC.o.way;have S9:=ch 0 hcell;have fc1:=fh 1 hcell;have ec1:=ch 1 hcell;cases gK with
 | nil=>
  have hne:rb≠cb:=by have:=eT.o;omega
  have hA:(wr.setCell ⟨cb,1,yO⟩ (yE yH 0)).heap[rb]?=yP (yL #[yA ⟨#[]⟩,yA ⟨#[]⟩] 52):=(yl _ _ _ _ (by simpa using hne)).trans k8.o;have a0:=ch 0 hA;have af0:=fh 0 hA;have mC:=heap_setCell (o:=0) (v:=yA ⟨#[]⟩) hA;have a1:=ch 1 mC;have af1:=fh 1 mC;have NV:=heap_setCell (o:=1) (v:=yA ⟨#[]⟩) mC;have NW:=yN NV;clear hA mC NV;go_wp2_with fail;refine bodyPost_ret (fK rfl rfl NW.o underlying52 rfl (by kernel_rfl)) rfl ?_
  have kL:=a03 (rb:=rb) (W2:=((wr.setCell ⟨cb,1,yO⟩ (yE yH 0)).setCell ⟨rb,0,yO⟩ (yA ⟨#[]⟩)).setCell ⟨rb,1,yO⟩ (yA ⟨#[]⟩)) (d:=0) HC.o HS.o (by rw [eT.o];exact ye _) HY.o (fR HC.o.way k8.o (by decide))
   (by rw [yl _ _ _ _ (by simpa using hne.symm),yl _ _ _ _ (by simpa using hne.symm)];exact heap_setCell hcell)
   (fun i h1 h2=>by rw [yl _ _ _ _ (by simpa using h2),yl _ _ _ _ (by simpa using h2),yl _ _ _ _ (by simpa using h1)]) (by simp only [World.setCell,Array.size_modify]) rfl rfl rfl
  exact⟨Y',_,[],kL.1,kL.2,.inl ⟨sV.o.symm,rfl⟩⟩
 | cons f tl=>
  obtain⟨g,cap,hwa⟩:=V3 HC.o.way;injection hwa with ZE _ a8F
  subst ZE;clear a8F cap;have aK6:=HC.o.lev.len;rw [zh] at aK6;have r0:=gU HC.o.way (aSV f tl);have r1:=gU HC.o.way (aSW f tl);have c1:yH.wrap ((tl.length:Int)+1-1)=(tl.length:Int):=by rw [zk];omega
  have c2:(tl.length:Int)+1-1=(tl.length:Int):=by omega
  go_wp2_with fail;go_region;have pN:=HC.o.fr f (by simp);obtain⟨pa,pc,mQ⟩:=pN.p.shape;obtain⟨ka,kc,hkv⟩:=pN.k.shape;rw [mQ] at r0;rw [hkv] at r1;by_cases hp:0<f.pl.length
  ·obtain⟨p,mP,hpl⟩:∃ p mP,f.pl=p::mP:=by
    cases e:f.pl with
    | nil=>rw [e] at hp;exact absurd hp (by decide)
    | cons p mP=>exact⟨p,mP,rfl⟩
   have qQ:0<(f.pl.length:Int):=by omega
   obtain⟨ga,off,rfl,CF,xR,hcs⟩:∃ ga off,pa=yP ⟨ga,off,yO⟩∧f.pl.length≤pc∧pc≤maxLen∧Hid (∀ j u,(aK f.pl)[j]?=yP u→(bO Y' wr).cell? ⟨ga,off+j,yO⟩=yP u):=by
    rcases pN.p with ⟨a',cap',e,_,e0,_⟩ | ⟨g',off',cap',e,h1,h2,_,hcs⟩
    ·omega
    rw [mQ] at e;cases e;exact⟨g',off',rfl,h1,h2,yN hcs⟩
   have e0:=(GI (hcs.o 0 (yA p.1) (by rw [hpl];rfl))).2;have e1:=(GI (hcs.o 1 (yA p.2) (by rw [hpl];rfl))).2;rw [Nat.add_zero] at e0;have l6:=yN pN;clear pN;rw [hpl,zh] at CF;have q1:(1:Int)≤(mP.length:Int)+1:=by omega
   have q2:(1:Int)≤(pc:Int):=by omega
   have q3:¬ pc=0:=by omega
   have q5:mP.length+1≤pc:=CF;have q6:(mP.length:Int)+1≤(pc:Int):=by omega
   obtain⟨cur,xQ⟩:=dX HC.o.way (g:=g) rfl;have n1:g≠cb:=fun e=>fR HC.o.way hcell (by decide) (by rw [e];rfl);have n2:g≠rb:=fun e=>fR HC.o.way k8.o (by decide) (by rw [e];rfl);have n3:rb≠cb:=by have:=eT.o;omega
   by_cases ZF:pc=1
   ·subst ZF;obtain⟨WA,WB,WC,WD,WE,hA,hB,hC,hD,hE,m1,m2,m3,m4,m5,m6,m7,m8,m9,m10,m11,z1,z2,z3,z4,z5⟩:=aEP wr p cb rb g (tl.length*2) _ (yC (yP ⟨ga,off,yO⟩) 0 0) _ d (tl.length+1) hcell k8.o cur xQ r0 n1 n2 n3;have HZ:=yN (yd z1 (yd z2 (yd z3 (yd z4 z5))));clear z1 z2 z3 z4 z5;subst hA hB hC hD hE;go_wp2_with fail;refine bodyPost_ret (fK rfl rfl HZ.o.1 underlying52 rfl (by kernel_rfl)) rfl ?_;have h9:mP=[]:=List.eq_nil_of_length_eq_zero (by omega);subst h9;obtain⟨Y2,uO,gZ,f1,f2,f3⟩:=aHF HC.o HS.o sV.o hpl (.inl ⟨_,0,rfl,by unfold maxLen;omega,rfl,rfl⟩) (by rw [eT.o];exact ye _) HY.o HZ.o.2.1 HZ.o.2.2.1 HZ.o.2.2.2.1 HZ.o.2.2.2.2 rfl rfl rfl;exact⟨Y2,uO,gZ,f1.drew,f2.drew,.inr ⟨p,f3,rfl⟩⟩
   have q4:¬ (pc-1=0):=by omega
   obtain⟨WA,WB,WC,WD,WE,hA,hB,hC,hD,hE,m1,m2,m3,m4,m5,m6,m7,m8,m9,m10,m11,z1,z2,z3,z4,z5⟩:=aEP wr p cb rb g (tl.length*2) _ (yC (yP ⟨ga,off+2,yO⟩) mP.length (pc-1)) _ d (tl.length+1) hcell k8.o cur xQ r0 n1 n2 n3;have HZ:=yN (yd z1 (yd z2 (yd z3 (yd z4 z5))));clear z1 z2 z3 z4 z5;subst hA hB hC hD hE;go_wp2_with fail;refine bodyPost_ret (fK rfl rfl HZ.o.1 underlying52 rfl (by kernel_rfl)) rfl ?_;have I3:=P7 (k:=2) (cs:=aK f.pl) hcs.o (by rw [lG,hpl];rfl) CF xR;rw [hpl] at I3;obtain⟨Y2,uO,gZ,f1,f2,f3⟩:=aHF HC.o HS.o sV.o hpl I3 (by rw [eT.o];exact ye _) HY.o HZ.o.2.1 HZ.o.2.2.1 HZ.o.2.2.2.1 HZ.o.2.2.2.2 rfl rfl rfl;exact⟨Y2,uO,gZ,f1.drew,f2.drew,.inr ⟨p,f3,rfl⟩⟩
  have iW:f.pl.length=0:=by omega
  have hpl:f.pl=[]:=List.eq_nil_of_length_eq_zero iW;rw [iW] at r0;by_cases AD:0<f.kz.length
  ·obtain⟨k0,e8,qN⟩:∃ k0 e8,f.kz=k0::e8:=by
    cases e:f.kz with
    | nil=>rw [e] at AD;exact absurd AD (by decide)
    | cons p mP=>exact⟨p,mP,rfl⟩
   have bG9:0<(f.kz.length:Int):=by omega
   obtain⟨gk,off,rfl,CF,xR,hcs⟩:∃ ga off,ka=yP ⟨ga,off,yO⟩∧f.kz.length≤kc∧kc≤maxLen∧Hid (∀ j u,(f.kz.map fun z=>ptr z.1)[j]?=yP u→(bO Y' wr).cell? ⟨ga,off+j,yO⟩=yP u):=by
    rcases pN.k with ⟨a',cap',e,_,e0,_⟩ | ⟨g',off',cap',e,h1,h2,_,hcs⟩
    ·omega
    rw [hkv] at e;cases e;exact⟨g',off',rfl,h1,h2,yN hcs⟩
   have e0:wr.cell? ⟨gk,off,yO⟩=yP (yB (yP ⟨k0.1,0,yO⟩)):=by
    have:=(GI (hcs.o 0 (ptr k0.1) (by rw [qN];rfl))).2;rw [Nat.add_zero] at this;exact this
   have l6:=yN pN;clear pN;rw [qN,zh] at CF;have q1:(1:Int)≤(e8.length:Int)+1:=by omega
   have q2:(1:Int)≤(kc:Int):=by omega
   have q3:¬ kc=0:=by omega
   have q5:e8.length+1≤kc:=CF;have q6:(e8.length:Int)+1≤(kc:Int):=by omega
   obtain⟨cur,xQ⟩:=dX HC.o.way (g:=g) rfl;have n1:g≠cb:=fun e=>fR HC.o.way hcell (by decide) (by rw [e];rfl);have n2:g≠rb:=fun e=>fR HC.o.way k8.o (by decide) (by rw [e];rfl);have n3:rb≠cb:=by have:=eT.o;omega
   have fg:wr.frozen? ⟨g,tl.length*2+1,yO⟩=false:=aU xQ;have I4:=HS;have aK7:=hz0;by_cases ZF:kc=1
   ·subst ZF;go_wp2_with fail;have h9:e8=[]:=List.eq_nil_of_length_eq_zero (by omega);subst h9;obtain⟨wB,wD⟩:∃ wB,wB=(wr.setCell ⟨g,tl.length*2+1,yO⟩ (yC (yP ⟨gk,off,yO⟩) 0 0)).drew:=⟨_,rfl⟩;rw [← wD];have bB:∀ i,i≠g→wB.heap[i]?=wr.heap[i]?:=fun i hi=>by rw [wD];exact yl _ _ _ _ (by simpa using hi)
    have sB:wB.heap.size=wr.heap.size:=by rw [wD];simp only [World.drew,World.setCell,Array.size_modify]
    have oB:wB.os=wr.os∧wB.tape=wr.tape∧wB.output=wr.output:=by rw [wD];exact⟨rfl,rfl,rfl⟩
    have X9:wB.ownsRow B 469 2 (yC (yP ⟨g,0,yO⟩) (tl.length+1) gP) (tl.length+1) (fS (({ f with kv:=(yC (yP ⟨gk,off,yO⟩) 0 0),kz:=[] } : Fr)::tl).reverse):=by
     have h1:=V2 (j:=tl.length*2+1) HC.o.way (yC (yP ⟨gk,off,yO⟩) 0 0);rw [aE7] at h1;have e1:fS (({ f with kv:=(yC (yP ⟨gk,off,yO⟩) 0 0),kz:=[] } : Fr)::tl).reverse=fS (({ f with kv:=(yC (yP ⟨gk,off,yO⟩) 0 0) } : Fr)::tl).reverse:=by rw [oQ,oQ]
     rw [e1,wD];exact cF h1 fun q _=>rfl
    have NX:∀ x∈({ f with kv:=(yC (yP ⟨gk,off,yO⟩) 0 0),kz:=[] } : Fr)::tl,EU (bO Y' wr) x:=by
     intro x hx;rcases yx.1 hx with rfl | hx
     ·have hn:=l6.o.kn;rw [qN,zh] at hn;exact⟨by rw [show ({ f with kv:=(yC (yP ⟨gk,off,yO⟩) 0 0),kz:=[] } : Fr).pv=f.pv from rfl,mQ];have h9:=l6.o.p;rw [mQ] at h9;exact h9,.inl ⟨_,0,rfl,by unfold maxLen;omega,rfl,rfl⟩,fun z hz=>l6.o.z z (by rw [qN];exact List.mem_cons_of_mem _ hz),l6.o.pn,by show ([]:List Nat).length≤1000;omega⟩
     exact HC.o.fr x (by simp [hx])
    have HFP:=yN NX;have NY:=yN X9;have pO:=yN (yd bB (yd sB oB));have HGC:=yN xQ;have ecB:wB.cell? ⟨cb,0,yO⟩=yP (yC (yP ⟨g,0,yO⟩) (tl.length+1) gP):=(zn (bB cb n1.symm)).trans S9;clear NX X9 bB sB oB wD xQ fg r0 r1 e0 S9 ec1 fc1 c1;have eF:=yN (gB wB);refine cP (fun W:World=>W.cell? ⟨cb,0,yO⟩=yP (yC (yP ⟨g,0,yO⟩) (tl.length+1) gP)) 8 12 ecB fun HS=>?_;clear ecB;generalize wB.drew=wy at *;refine tM 0 HS ?_;refine tM 1 HS ?_;refine tM 2 HS ?_;refine tM 3 HS ?_;refine lM 4 HS ?_;refine tM 5 HS ?_;go_frame;have YA:Sub (bO Y' wr) wy:=X6 fun q h1 h2=>by
     have h3:q≠g:=fun e=>by rw [e,HC.o.yw g rfl] at h1;cases h1
     have e:=pO.o.1 q h3;exact (eF.o.block q (by have h4:=Array.getElem?_eq_getElem h2;rw [← e] at h4;exact (yo.1 h4).1)).trans e
    have bF:=l6.o.z k0 (by rw [qN];simp);refine oM 6 fun K hK=>?_;go_simp;refine (XN (bO Y' wr) wy _ k0.2.1 k0.2.2 f.lev (.inl ⟨_,rfl,bF.1⟩) YA bF.2).mono ?_;rintro e w4 ⟨fN,rfl,xS,hk4,bH,sQ,sP,zD,jB,RU,hk⟩;have aF:=yN (hk.cell HS.o);have HN4:=yN (yd xS (yd hk4 (yd bH (yd sQ (yd sP (yd zD (yd jB RU)))))));have aR:=yN hk;have hlv:=bF.1.lvl;refine hK _ _ (.inr aF.o) ?_;clear hK K HS xS hk4 bH sQ sP zD jB RU hk bF YA;have HS:=aF;clear aF;refine oM 7 fun K hK=>?_;go_simp;have aA:=aZ w4 (yL #[fN.pv,fN.kv] 469);have cA:=yN aA;have aF:=yN (aA.cell HS.o);refine hK _ _ (.inr aF.o) ?_;clear hK K HS aA;have HS:=aF;clear aF;have lY:=yN (bT NY.o (aB eF.o (aB aR.o cA.o)));have iH:=aD8 w4 fN.pv fN.kv 469;obtain⟨pa4,pc4,ZG⟩:=bW HN4.o.1;obtain⟨ka4,kc4,ZH⟩:=bW HN4.o.2.1;have h1c:∀ u∈[fN.pv,fN.kv],u.oneCell'=true:=by intro u hu;simp at hu;rcases hu with rfl | rfl;rw [ZG];rfl;rw [ZH];rfl
    have hz1:=pO.o.2.1;have hz2:=eF.o.size;have hz3:=aR.o.size;have bH:=cA.o.size;have hmx:tl.length+1+1≤maxLen:=by unfold maxLen;omega
    have hz0:=I4.o.size;have hZ:B≤(w4.alloc (yL #[fN.pv,fN.kv] 469)).heap.size:=by omega
    have AE:(tl.length+1+1)*48≤140737488355328:=by omega
    refine oM 8 fun K hK=>?_;refine (if_pos (show Region.wanted _ _=true from rfl)).mpr ?_;refine A2 _ _ 471 rfl B 469 i0 (yF #[yC yO 0 0,yC yO 0 0]) 2 48 underlying471 bS aK7 hzs hzb rfl (by decide) _ _ _ rfl lY.o ⟨w4.heap.size,0,yO⟩ 1 1 [fN.pv,fN.kv] rfl rfl iH h1c hmx AE hZ ?_;intro v' w6 hown hgrow fU;obtain⟨va,vc,rfl⟩:=bW hown;refine hK _ _ aX ?_;clear hK K;have xF:(w4.alloc (yL #[fN.pv,fN.kv] 469)).heap[cb]?=wr.heap[cb]?:=by
     have hl:=HC.o.lt;rw [cA.o.block cb (by omega),aR.o.block cb (by omega),eF.o.block cb (by omega),pO.o.1 cb n1.symm]
    have L5:w6.heap[cb]?=wr.heap[cb]?:=by
     have hl:=HC.o.lt;rw [hgrow.block cb (by omega) (fun e=>n1 (by cases e;rfl))];exact xF
    have xD:=L5.trans hcell;have NZ:=ch 0 xD;have TA:=fh 0 xD;have dC:=yN (yd hown (yd hgrow (yd fU xD)));clear hown hgrow fU iH h1c hZ xF L5 xD HS;refine fF 9 aX (h:=?_);refine fF 10 aX (h:=?_);go_frame;refine oM 11 fun K hK=>?_;go_simp;refine hK _ _ aX ?_;clear hK K;refine cM ?_;obtain⟨w7,pP⟩:∃ w7,w7=w6.setCell ⟨cb,0,yO⟩ (yC va (tl.length+1+1) vc):=⟨_,rfl⟩;rw [← pP]
    (try go_wp2)
    have b7:∀ i,i≠cb→w7.heap[i]?=w6.heap[i]?:=fun i hi=>by rw [pP];exact yl _ _ _ _ (by simpa using hi)
    have s7:w7.heap.size=w6.heap.size:=by rw [pP];simp only [World.setCell,Array.size_modify]
    have c7:w7.heap[cb]?=yP (yL #[yC va (tl.length+1+1) vc,yE yH d] 473):=by rw [pP];exact heap_setCell dC.o.2.2.2
    have hz5:=dC.o.2.1.size;have hlc:=HC.o.lt;have hlg:=(HC.o.way.lt g rfl).2;have N0:=HC.o.ys;have N1:=HC.o.yw g rfl;have xG:∀ i,i<wr.heap.size→i≠cb→i≠g→w7.heap[i]?=wr.heap[i]?:=fun i hi h1 h2=>by
     rw [b7 i h1,dC.o.2.1.block i (by omega) (fun e=>h2 (by cases e;rfl)),cA.o.block i (by omega),aR.o.block i (by omega),eF.o.block i (by omega),pO.o.1 i h2]
    have ZI:∀ q,(yC va (tl.length+1+1) vc).ownBlock=yP q→q≠cb:=fun q hq e=>by
     rcases dC.o.2.2.1 with h | h
     ·rw [hq] at h;cases h;exact n1 e
     rw [hq] at h;cases h;omega
    have fC:=aHG (B:=B) (b1:=wy.heap.size) (fN:=fN) (f':=({ f with kv:=(yC (yP ⟨gk,off,yO⟩) 0 0),kz:=[] } : Fr)) (tl:=tl) HFP.o HC.o.yc N0 HC.o.b ⟨?lv1,?lv2,?lv3⟩ c7 (cF (show w6.ownsRow B 469 2 (yC va (tl.length+1+1) vc) (tl.length+1+1) (fS (fN::({ f with kv:=(yC (yP ⟨gk,off,yO⟩) 0 0),kz:=[] } : Fr)::tl).reverse) by rw [oQ];exact dC.o.1) (fun q hq=>b7 q (ZI q hq)))
     HN4.o.1 HN4.o.2.1 HN4.o.2.2.1 HN4.o.2.2.2.1 HN4.o.2.2.2.2.1 (by omega) (fun i hi=>xG i (by have:=N0 i hi;omega) (fun e=>by rw [e,HC.o.yc] at hi;cases hi) (fun e=>by rw [e,N1] at hi;cases hi))
     (fun i h1 h2=>by rw [b7 i (by omega),dC.o.2.1.block i (by omega) (fun e=>by have e2:i=g:=Option.some.inj e;omega),cA.o.block i h2]) (by omega) (by omega) ?own hlc
    case lv1=>rw [HN4.o.2.2.2.2.2.1];have:=HC.o.lev.1;simp;omega
    case lv2=>rw [HN4.o.2.2.2.2.2.1];omega
    case lv3=>exact HC.o.lev
    case own=>
     intro q hq;rcases dC.o.2.2.1 with h | h
     ·rw [hq] at h;cases h;exact .inl ⟨N1,hlg⟩
     rw [hq] at h;cases h;exact .inr bH
    have hstep:dR cb wv Y W (yC va (tl.length+1+1) vc) (fun i=>Y' i || (decide (wy.heap.size≤i) && decide (i<w4.heap.size))) w7:=by
     refine I4.o.more ?_ ?_ ?_ (by omega) (fun i hi h1 h2=>xG i (by omega) h1 (fun e=>h2 (by rw [e];rfl))) (fun i hi=>?_) (fun q hq=>?_);·rw [pP];exact dC.o.2.1.os.trans (cA.o.os.trans (aR.o.os.trans (eF.o.os.trans pO.o.2.2.1)))
     ·rw [pP];exact dC.o.2.1.tape.trans (cA.o.tape.trans (aR.o.tape.trans (eF.o.tape.trans pO.o.2.2.2.1)))
     ·rw [pP];exact dC.o.2.1.output.trans (cA.o.output.trans (aR.o.output.trans (eF.o.output.trans pO.o.2.2.2.2)))
     ·simp at hi;rcases hi with hi | ⟨hi,_⟩
      ·exact .inl hi
      exact .inr (by omega)
     rcases dC.o.2.2.1 with h | h
     ·rw [hq] at h;cases h;exact .inl rfl
     rw [hq] at h;cases h;exact .inr (by omega)
    have uH:=HN4.o.2.2.2.2.2.2.2;have hr2:=HN4.o.2.2.2.2.2.2.1;go_roundg (measS (fN::({ f with kv:=(yC (yP ⟨gk,off,yO⟩) 0 0),kz:=[] } : Fr)::tl));case measure=>
     have:=HM.o;unfold measS at this ⊢;unfold measS;have e1:f.meas=1+2*(k0.2.1+(([]:List (Nat × (Nat × List Pr))).map fun z=>z.2.1).sum):=by unfold Fr.meas;rw [qN];rfl
     have e2:({ f with kv:=(yC (yP ⟨gk,off,yO⟩) 0 0),kz:=[] } : Fr).meas=1+2*(([]:List (Nat × (Nat × List Pr))).map fun z=>z.2.1).sum:=rfl;rw [e1] at this;rw [e2];omega
    have L6:=(yo.1 k8.o).1;refine⟨_,_,fN::({ f with kv:=(yC (yP ⟨gk,off,yO⟩) 0 0),kz:=[] } : Fr)::tl,yN (ye _),yN fC,yN hstep,yN ?_,yN ((xG rb (by omega) n3 n2.symm).trans k8.o),yN ?_⟩
    ·rw [← sV.o];simp only [kI];rw [hr2];simp [Fr.rest,hpl,qN]
    simp [HY.o];omega
   have q4:¬ (kc-1=0):=by omega
   go_wp2_with fail;have I3:Rd (bO Y' wr) (yC (yP ⟨gk,off+1,yO⟩) e8.length (kc-1)) e8.length (e8.map fun z=>ptr z.1):=by
    have h9:=P7 (k:=1) (cs:=f.kz.map fun z=>ptr z.1) hcs.o (by rw [List.length_map,qN,zh,Nat.mul_one]) CF xR;rw [qN] at h9;exact h9
   obtain⟨wB,wD⟩:∃ wB,wB=(wr.setCell ⟨g,tl.length*2+1,yO⟩ (yC (yP ⟨gk,off+1,yO⟩) e8.length (kc-1))).drew:=⟨_,rfl⟩;rw [← wD];have bB:∀ i,i≠g→wB.heap[i]?=wr.heap[i]?:=fun i hi=>by rw [wD];exact yl _ _ _ _ (by simpa using hi)
   have sB:wB.heap.size=wr.heap.size:=by rw [wD];simp only [World.drew,World.setCell,Array.size_modify]
   have oB:wB.os=wr.os∧wB.tape=wr.tape∧wB.output=wr.output:=by rw [wD];exact⟨rfl,rfl,rfl⟩
   have X9:wB.ownsRow B 469 2 (yC (yP ⟨g,0,yO⟩) (tl.length+1) gP) (tl.length+1) (fS (({ f with kv:=(yC (yP ⟨gk,off+1,yO⟩) e8.length (kc-1)),kz:=e8 } : Fr)::tl).reverse):=by
    have h1:=V2 (j:=tl.length*2+1) HC.o.way (yC (yP ⟨gk,off+1,yO⟩) e8.length (kc-1));rw [aE7] at h1;have e1:fS (({ f with kv:=(yC (yP ⟨gk,off+1,yO⟩) e8.length (kc-1)),kz:=e8 } : Fr)::tl).reverse=fS (({ f with kv:=(yC (yP ⟨gk,off+1,yO⟩) e8.length (kc-1)) } : Fr)::tl).reverse:=by rw [oQ,oQ]
    rw [e1,wD];exact cF h1 fun q _=>rfl
   have NX:∀ x∈({ f with kv:=(yC (yP ⟨gk,off+1,yO⟩) e8.length (kc-1)),kz:=e8 } : Fr)::tl,EU (bO Y' wr) x:=by
    intro x hx;rcases yx.1 hx with rfl | hx
    ·have hn:=l6.o.kn;rw [qN,zh] at hn;exact⟨by rw [show ({ f with kv:=(yC (yP ⟨gk,off+1,yO⟩) e8.length (kc-1)),kz:=e8 } : Fr).pv=f.pv from rfl,mQ];have h9:=l6.o.p;rw [mQ] at h9;exact h9,I3,fun z hz=>l6.o.z z (by rw [qN];exact List.mem_cons_of_mem _ hz),l6.o.pn,by show e8.length≤1000;omega⟩
    exact HC.o.fr x (by simp [hx])
   have HFP:=yN NX;have NY:=yN X9;have pO:=yN (yd bB (yd sB oB));have HGC:=yN xQ;have ecB:wB.cell? ⟨cb,0,yO⟩=yP (yC (yP ⟨g,0,yO⟩) (tl.length+1) gP):=(zn (bB cb n1.symm)).trans S9;clear NX X9 bB sB oB wD xQ fg r0 r1 e0 S9 ec1 fc1 c1;have eF:=yN (gB wB);refine cP (fun W:World=>W.cell? ⟨cb,0,yO⟩=yP (yC (yP ⟨g,0,yO⟩) (tl.length+1) gP)) 8 12 ecB fun HS=>?_;clear ecB;generalize wB.drew=wy at *;refine tM 0 HS ?_;refine tM 1 HS ?_;refine tM 2 HS ?_;refine tM 3 HS ?_;refine lM 4 HS ?_;refine tM 5 HS ?_;go_frame;have YA:Sub (bO Y' wr) wy:=X6 fun q h1 h2=>by
    have h3:q≠g:=fun e=>by rw [e,HC.o.yw g rfl] at h1;cases h1
    have e:=pO.o.1 q h3;exact (eF.o.block q (by have h4:=Array.getElem?_eq_getElem h2;rw [← e] at h4;exact (yo.1 h4).1)).trans e
   have bF:=l6.o.z k0 (by rw [qN];simp);refine oM 6 fun K hK=>?_;go_simp;refine (XN (bO Y' wr) wy _ k0.2.1 k0.2.2 f.lev (.inl ⟨_,rfl,bF.1⟩) YA bF.2).mono ?_;rintro e w4 ⟨fN,rfl,xS,hk4,bH,sQ,sP,zD,jB,RU,hk⟩;have aF:=yN (hk.cell HS.o);have HN4:=yN (yd xS (yd hk4 (yd bH (yd sQ (yd sP (yd zD (yd jB RU)))))));have aR:=yN hk;have hlv:=bF.1.lvl;refine hK _ _ (.inr aF.o) ?_;clear hK K HS xS hk4 bH sQ sP zD jB RU hk bF YA;have HS:=aF;clear aF;refine oM 7 fun K hK=>?_;go_simp;have aA:=aZ w4 (yL #[fN.pv,fN.kv] 469);have cA:=yN aA;have aF:=yN (aA.cell HS.o);refine hK _ _ (.inr aF.o) ?_;clear hK K HS aA;have HS:=aF;clear aF;have lY:=yN (bT NY.o (aB eF.o (aB aR.o cA.o)));have iH:=aD8 w4 fN.pv fN.kv 469;obtain⟨pa4,pc4,ZG⟩:=bW HN4.o.1;obtain⟨ka4,kc4,ZH⟩:=bW HN4.o.2.1;have h1c:∀ u∈[fN.pv,fN.kv],u.oneCell'=true:=by intro u hu;simp at hu;rcases hu with rfl | rfl;rw [ZG];rfl;rw [ZH];rfl
   have hz1:=pO.o.2.1;have hz2:=eF.o.size;have hz3:=aR.o.size;have bH:=cA.o.size;have hmx:tl.length+1+1≤maxLen:=by unfold maxLen;omega
   have hz0:=I4.o.size;have hZ:B≤(w4.alloc (yL #[fN.pv,fN.kv] 469)).heap.size:=by omega
   have AE:(tl.length+1+1)*48≤140737488355328:=by omega
   refine oM 8 fun K hK=>?_;refine (if_pos (show Region.wanted _ _=true from rfl)).mpr ?_;refine A2 _ _ 471 rfl B 469 i0 (yF #[yC yO 0 0,yC yO 0 0]) 2 48 underlying471 bS aK7 hzs hzb rfl (by decide) _ _ _ rfl lY.o ⟨w4.heap.size,0,yO⟩ 1 1 [fN.pv,fN.kv] rfl rfl iH h1c hmx AE hZ ?_;intro v' w6 hown hgrow fU;obtain⟨va,vc,rfl⟩:=bW hown;refine hK _ _ aX ?_;clear hK K;have xF:(w4.alloc (yL #[fN.pv,fN.kv] 469)).heap[cb]?=wr.heap[cb]?:=by
    have hl:=HC.o.lt;rw [cA.o.block cb (by omega),aR.o.block cb (by omega),eF.o.block cb (by omega),pO.o.1 cb n1.symm]
   have L5:w6.heap[cb]?=wr.heap[cb]?:=by
    have hl:=HC.o.lt;rw [hgrow.block cb (by omega) (fun e=>n1 (by cases e;rfl))];exact xF
   have xD:=L5.trans hcell;have NZ:=ch 0 xD;have TA:=fh 0 xD;have dC:=yN (yd hown (yd hgrow (yd fU xD)));clear hown hgrow fU iH h1c hZ xF L5 xD HS;refine fF 9 aX (h:=?_);refine fF 10 aX (h:=?_);go_frame;refine oM 11 fun K hK=>?_;go_simp;refine hK _ _ aX ?_;clear hK K;refine cM ?_;obtain⟨w7,pP⟩:∃ w7,w7=w6.setCell ⟨cb,0,yO⟩ (yC va (tl.length+1+1) vc):=⟨_,rfl⟩;rw [← pP]
   (try go_wp2)
   have b7:∀ i,i≠cb→w7.heap[i]?=w6.heap[i]?:=fun i hi=>by rw [pP];exact yl _ _ _ _ (by simpa using hi)
   have s7:w7.heap.size=w6.heap.size:=by rw [pP];simp only [World.setCell,Array.size_modify]
   have c7:w7.heap[cb]?=yP (yL #[yC va (tl.length+1+1) vc,yE yH d] 473):=by rw [pP];exact heap_setCell dC.o.2.2.2
   have hz5:=dC.o.2.1.size;have hlc:=HC.o.lt;have hlg:=(HC.o.way.lt g rfl).2;have N0:=HC.o.ys;have N1:=HC.o.yw g rfl;have xG:∀ i,i<wr.heap.size→i≠cb→i≠g→w7.heap[i]?=wr.heap[i]?:=fun i hi h1 h2=>by
    rw [b7 i h1,dC.o.2.1.block i (by omega) (fun e=>h2 (by cases e;rfl)),cA.o.block i (by omega),aR.o.block i (by omega),eF.o.block i (by omega),pO.o.1 i h2]
   have ZI:∀ q,(yC va (tl.length+1+1) vc).ownBlock=yP q→q≠cb:=fun q hq e=>by
    rcases dC.o.2.2.1 with h | h
    ·rw [hq] at h;cases h;exact n1 e
    rw [hq] at h;cases h;omega
   have fC:=aHG (B:=B) (b1:=wy.heap.size) (fN:=fN) (f':=({ f with kv:=(yC (yP ⟨gk,off+1,yO⟩) e8.length (kc-1)),kz:=e8 } : Fr)) (tl:=tl) HFP.o HC.o.yc N0 HC.o.b ⟨?lv1,?lv2,?lv3⟩ c7 (cF (show w6.ownsRow B 469 2 (yC va (tl.length+1+1) vc) (tl.length+1+1) (fS (fN::({ f with kv:=(yC (yP ⟨gk,off+1,yO⟩) e8.length (kc-1)),kz:=e8 } : Fr)::tl).reverse) by rw [oQ];exact dC.o.1) (fun q hq=>b7 q (ZI q hq)))
    HN4.o.1 HN4.o.2.1 HN4.o.2.2.1 HN4.o.2.2.2.1 HN4.o.2.2.2.2.1 (by omega) (fun i hi=>xG i (by have:=N0 i hi;omega) (fun e=>by rw [e,HC.o.yc] at hi;cases hi) (fun e=>by rw [e,N1] at hi;cases hi))
    (fun i h1 h2=>by rw [b7 i (by omega),dC.o.2.1.block i (by omega) (fun e=>by have e2:i=g:=Option.some.inj e;omega),cA.o.block i h2]) (by omega) (by omega) ?own hlc
   case lv1=>rw [HN4.o.2.2.2.2.2.1];have:=HC.o.lev.1;simp;omega
   case lv2=>rw [HN4.o.2.2.2.2.2.1];omega
   case lv3=>exact HC.o.lev
   case own=>
    intro q hq;rcases dC.o.2.2.1 with h | h
    ·rw [hq] at h;cases h;exact .inl ⟨N1,hlg⟩
    rw [hq] at h;cases h;exact .inr bH
   have hstep:dR cb wv Y W (yC va (tl.length+1+1) vc) (fun i=>Y' i || (decide (wy.heap.size≤i) && decide (i<w4.heap.size))) w7:=by
    refine I4.o.more ?_ ?_ ?_ (by omega) (fun i hi h1 h2=>xG i (by omega) h1 (fun e=>h2 (by rw [e];rfl))) (fun i hi=>?_) (fun q hq=>?_);·rw [pP];exact dC.o.2.1.os.trans (cA.o.os.trans (aR.o.os.trans (eF.o.os.trans pO.o.2.2.1)))
    ·rw [pP];exact dC.o.2.1.tape.trans (cA.o.tape.trans (aR.o.tape.trans (eF.o.tape.trans pO.o.2.2.2.1)))
    ·rw [pP];exact dC.o.2.1.output.trans (cA.o.output.trans (aR.o.output.trans (eF.o.output.trans pO.o.2.2.2.2)))
    ·simp at hi;rcases hi with hi | ⟨hi,_⟩
     ·exact .inl hi
     exact .inr (by omega)
    rcases dC.o.2.2.1 with h | h
    ·rw [hq] at h;cases h;exact .inl rfl
    rw [hq] at h;cases h;exact .inr (by omega)
   have uH:=HN4.o.2.2.2.2.2.2.2;have hr2:=HN4.o.2.2.2.2.2.2.1;go_roundg (measS (fN::({ f with kv:=(yC (yP ⟨gk,off+1,yO⟩) e8.length (kc-1)),kz:=e8 } : Fr)::tl));case measure=>
    have:=HM.o;unfold measS at this ⊢;unfold measS;have e1:f.meas=1+2*(k0.2.1+(e8.map fun z=>z.2.1).sum):=by unfold Fr.meas;rw [qN];rfl
    have e2:({ f with kv:=(yC (yP ⟨gk,off+1,yO⟩) e8.length (kc-1)),kz:=e8 } : Fr).meas=1+2*(e8.map fun z=>z.2.1).sum:=rfl;rw [e1] at this;rw [e2];omega
   have L6:=(yo.1 k8.o).1;refine⟨_,_,fN::({ f with kv:=(yC (yP ⟨gk,off+1,yO⟩) e8.length (kc-1)),kz:=e8 } : Fr)::tl,yN (ye _),yN fC,yN hstep,yN ?_,yN ((xG rb (by omega) n3 n2.symm).trans k8.o),yN ?_⟩
   ·rw [← sV.o];simp only [kI];rw [hr2];simp [Fr.rest,hpl,qN]
   simp [HY.o];omega
  have bF:f.kz.length=0:=by omega
  rw [bF] at r1;have iE:=aIK HC.o.way;rw [zh] at iE;have q1:(tl.length:Int)≤(gP:Int):=by omega
  have q2:(0:Int)≤(tl.length:Int):=by omega
  have fc0:=fh 0 hcell;go_wp2_with fail;go_region
  (try go_wp2)
  have kL:=a04 (W2:=(wr.setCell ⟨cb,0,yO⟩ (yC (yP ⟨g,0,yO⟩) tl.length gP)).drew.drew) HC.o HS.o (heap_setCell hcell) (fun i h1=>yl _ _ _ _ (by simpa using h1)) (by simp only [World.drew,World.setCell,Array.size_modify]) rfl rfl rfl;have a8G:f.kz=[]:=List.eq_nil_of_length_eq_zero bF;have n3:rb≠cb:=by have:=eT.o;omega
  go_roundg (measS tl);case measure=>have:=HM.o;unfold measS Fr.meas at this;omega
  refine⟨Y',_,tl,yN (ye _),yN kL.1,yN kL.2,yN ?_,yN ?_,HY⟩;·rw [← sV.o];simp [kI,Fr.rest,hpl,a8G]
  exact (yl _ _ _ _ (by simpa using n3)).trans k8.o
end
section
variable {xs:List Value} {v:Value}
structure EI (e t:TypeId) (k bytes:Nat) (z:Value):Prop where
 i:∃ i,yM.info? e=yP i∧i.zero=yP z∧i.size=k∧i.bytes=bytes
 u:yM.underlying t=yP (.slice e)
 z:z.cells.size=k
 k:0<k
 b:bytes≤1000
theorem EI.of {e t:TypeId} {k bytes:Nat} {z:Value} (h:(yM.info? e).map (fun i=>(i.zero,i.size,i.bytes))=yP (yP z,k,bytes)) (hu:yM.underlying t=yP (.slice e)) (hz:z.cells.size=k) (hk:0<k) (hb:bytes≤1000):EI e t k bytes z:=
 ⟨info_parts h,hu,hz,hk,hb⟩
theorem QH (w:World) (news:List Value) (e:TypeId):∀ j u,news[j]?=yP u→(w.alloc (yL news.toArray e)).cell? ((⟨w.heap.size,0,yO⟩:Addr).add j)=yP u:=by
 intro j u hj;rw [Addr.add_lit];refine aG (bM w _) ?_;rw [Nat.zero_add];simpa using hj
variable {e t:TypeId} {k bytes:Nat} {z:Value} {w:World} {ops:Array Oper} {rest:List Oper} {o:Oper} {a:Act} {Q:Exit→Act→World→Prop}
theorem CC (E:EI e t k bytes z) (hg:o.guard=yO) (s x:Operand) (ho:o.op = .call { callee:=.builtin .append,args:=#[s,x],argTypes:=#[t,t] }) (B:Nat) (n:Nat) (news:List Value)
  (hs:a.eval s=v) (hown:w.ownsRow B e k v n xs) (hB:B≤w.heap.size) (hx:a.eval x=yC (yP ⟨w.heap.size,0,yO⟩) 1 1) (hl:news.length=k) (h1:∀ u∈news,u.oneCell'=true) (hn:n≤1000000)
  (h:∀ v' w',w'.ownsRow B e k v' (n+1) (xs++news)→Below B w w'→World.grownBy w w' v.ownBlock→(v'.ownBlock=v.ownBlock∨v'.ownBlock=yP (w.heap.size+1))→wpList yM ops Q rest (a.put o.dst v') w') :
  wpList yM ops Q (o::rest) a (w.alloc (yL news.toArray e)):=by
 obtain⟨i,hi,hz,hsz,hby⟩:=E.i;have n9:=E.b;have aA:=aZ w (yL news.toArray e);have hw:=World.size_alloc w (yL news.toArray e);refine wpList_append_own_at _ hg s x t ho B e i z k bytes E.u hi hz hsz hby E.z E.k v n xs hs (bT hown aA) ⟨w.heap.size,0,yO⟩ 1 1 news hx (by omega) (QH w news e) h1 (by unfold maxLen;omega) (yf (Nat.mul_le_mul (show n+1≤1000001 by omega) n9) (by omega)) (by omega) ?_;intro v' w' h2 h3 _ h5;refine h v' w' h2 (Below.grown ((yk B w).alloc hB _) h3 (by omega) (fun g hg=>(hown.lt g hg).1)) ?_ (by rw [hw] at h5;exact h5);exact⟨h3.os,h3.tape,h3.output,by have:=h3.size;omega,fun j hj hne=>(h3.block j (by omega) hne).trans (aA.block j hj)⟩
theorem aJR (E:EI e t k bytes z) (hg:o.guard=yO) (s x:Operand) (ho:o.op = .call { callee:=.builtin .append,args:=#[s,x],argTypes:=#[t,t] }) (B B2 n m:Nat) {vx:Value} {ys:List Value}
  (hs:a.eval s=v) (hown:w.ownsRow B e k v n xs) (hB:B≤w.heap.size) (hx:a.eval x=vx) (hrow:w.ownsRow B2 e k vx m ys) (h1:∀ u∈ys,u.oneCell'=true) (hn:n+m≤1000000)
  (h:∀ v' w',w'.ownsRow B e k v' (n+m) (xs++ys)→Below B w w'→World.grownBy w w' v.ownBlock→(v'.ownBlock=v.ownBlock∨v'.ownBlock=yP w.heap.size)→wpList yM ops Q rest (a.put o.dst v') w') :
  wpList yM ops Q (o::rest) a w:=by
 obtain⟨i,hi,hz,hsz,hby⟩:=E.i;have n9:=E.b;rcases hrow.2 with ⟨rfl,rfl⟩ | ⟨g,cap,cur,rfl,_⟩
 ·have hy:ys=[]:=List.eq_nil_of_length_eq_zero (by rw [hrow.1];omega);subst hy;refine wpList_append_own_none hg s x t ho B e i k E.u hi v n xs hs hown hx (h v w (by rw [zi];exact hown) (yk _ _) ⟨rfl,rfl,rfl,ye _,fun _ _ _=>rfl⟩ (.inl rfl))
 refine wpList_append_own_at _ hg s x t ho B e i z k bytes E.u hi hz hsz hby E.z E.k v n xs hs hown ⟨g,0,yO⟩ m cap ys hx hrow.1 (hrow.cells (g:=g) rfl) h1 (by unfold maxLen;omega) (yf (Nat.mul_le_mul (show n+m≤1000001 by omega) n9) (by omega)) hB ?_;intro v' w' h2 h3 _ h5;exact h v' w' h2 (Below.grown (yk B w) h3 hB (fun g hg=>(hown.lt g hg).1)) h3 h5
theorem eiP:EI 52 27 2 32 (yF #[yA yj,yA yj]):=.of yU underlying27 rfl (by decide) (by decide)
theorem eiU:EI 35 38 1 4 (yE yI 0):=.of XI underlying38 rfl (by decide) (by decide)
end
end Go.Proofs.YtcldomgdkhenpaaGreat
