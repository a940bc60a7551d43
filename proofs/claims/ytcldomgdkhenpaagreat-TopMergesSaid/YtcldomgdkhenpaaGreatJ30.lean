/- Lemmas. -/
import Derived.Test.YtcldomgdkhenpaaGreatJ17
import Derived.Test.YtcldomgdkhenpaaGreatJ26
import Derived.Test.YtcldomgdkhenpaaGreatJ29
import Derived.Deep.DeepMust
set_option linter.unusedVariables false
set_option maxRecDepth 1000000
set_option maxHeartbeats 40000000
open Go.Proofs.Tryz
open Go.Proofs.Tryz renaming prog → yM
open Go.Value renaming string → yA,pointer → yB,slice → yC,bool → yD,int → yE,agg → yF,func → yG
open Go.IntKind renaming i64 → yH,u32 → yI,u64 → yJ
open Go.Obj renaming cells → yL
open Option renaming none → yO,some → yP
open Go.Lib renaming hid → yN
open And renaming intro → yd
open Array renaming getElem?_eq_some_iff → yo
open Go.Builtin renaming zeroCells → zm
open Go.RowKit.Below renaming drew → ym,heap_setCell → yl,refl → yk,trans → yn
open List renaming length_append → yy,mem_append → za,mem_cons → yx,mem_map → zj,not_mem_nil → zc
open Nat renaming le_of_eq → yh,le_refl → ye,le_trans → yf
open Go.RowKit
namespace Go.Proofs.YtcldomgdkhenpaaGreat
section
open Sip
attribute [local irreducible] look
theorem eiN:EI 65 39 2 24 (yF #[yA ⟨#[]⟩,yE yI 0]):=.of (by kernel_rfl) underlying39 rfl (by decide) (by decide)
def YG (br:Key→Option Nat) (l:List Nm):Prop:=l.Pairwise (fun a b=>lt a.1 b.1=true)∧∀ k i,(k,i)∈l↔br k=yP i
def aJB (br:Key→Option Nat) (w:World) (e:Ending) (w':World):Prop:=∃ v l,e = .returned v∧YG br l∧w'.ownsRow w.heap.size 65 2 v l.length (o8 l)∧Kept w w'
theorem aTM {br:Key→Option Nat} {l s:List Nm} (hd:(l.map (·.1)).Nodup) (hm:∀ k i,(k,i)∈l↔br k=yP i) (hp:s.Perm l) (hs:s.Pairwise (fun a b=>lt b.1 a.1=false)):YG br s:=by
 refine⟨?_,fun k i=>by rw [hp.mem_iff];exact hm k i⟩;have iO:(s.map (·.1)).Nodup:=(hp.map (·.1)).nodup_iff.2 hd;rw [List.nodup_iff_pairwise_ne,List.pairwise_map] at iO;refine (hs.and iO).imp fun {a b} h=>?_;rcases GY a.1 b.1 with e | e | e
 ·exact absurd e h.2
 ·exact e
 rw [h.1] at e;cases e
theorem aY4 {bb nb:Nat} {br:Key→Option Nat} (w:World) (h:MF 9 gs w bb nb (nM br)) (hlen:∀ l:List Nm,(l.map (·.1)).Nodup→(∀ x∈l,br x.1=yP x.2)→l.length≤1000) :
  Calls yM 176 #[.map (yP bb)] w (aJB br w):=by
 obtain⟨w1,hrun,hrg,aS,hz1⟩:=h.range JU underlying186;have n9:=h.lt;obtain⟨r,fM⟩:∃ r,r=w.heap.size:=⟨_,rfl⟩;rw [← fM] at hrun hrg;have EN:=yN hrg;have HK:=yN aS;have HR:=yN fM;have HL:=yN hlen;have HZ:=yN hz1;clear h hrg aS hz1 fM hlen;go_enter func176,ntmps176;go_wp2_with fail;clear hrun;try go_frame
 go_loopg [3,4,5] nb (fun kx s3 s4 s5 wr=>∃ (v:Value) (l:List Nm) (cnt:Nat) (lf:Key→Bool),v=s3∧cnt≤kx∧Hid (RG 9 gs wr bb r nb (nM br) lf cnt)∧Hid (wr.ownsRow w1.heap.size 65 2 v l.length (o8 l))∧Hid ((l.map (·.1)).Nodup∧∀ k i,(k,i)∈l↔(br k=yP i∧lf k=false))∧Hid (Kept w wr∧w1.heap.size≤wr.heap.size))
 case atStart=>exact⟨_,[],nb,fun k=>(nM br k).isSome,rfl,ye _,EN,yN (World.ownsRow_nil _ _ _ _),yN ⟨List.nodup_nil,fun k i=>⟨fun h=>by simp at h,fun ⟨h1,h2⟩=>by simp [nM,h1] at h2⟩⟩,yN ⟨HK.o,ye _⟩⟩
 obtain⟨v,l,cnt,lf,rfl,aKU,HG,HV,HM,aV⟩:=hrel;rcases HG.o.a3F (ty:=0) with ⟨h0,hl,hrun⟩ | ⟨k,u,w2,cnt',hl,hf,hrun,hrg2,hlt,hgr,hsz,hen⟩
 ·have HL0:=yN hl;have hlen:=HL.o l HM.o.1 (fun x hx=>((HM.o.2 x.1 x.2).1 hx).1);clear hl;go_wp2_with fail;refine (aTL w1.heap.size v l wr HV.o (by omega)).mono ?_;rintro e w3 ⟨rfl,s,hp,hs,ho,hg⟩;have HX:=yN (yd hp (yd hs (yd ho hg)));clear hp hs ho hg;go_wp2_with fail;go_ret;refine⟨v,s,rfl,aTM HM.o.1 (fun k i=>by rw [HM.o.2 k i];exact⟨fun h=>h.1,fun h=>⟨h,HL0.o k⟩⟩) HX.o.1 HX.o.2.1,dG HX.o.2.2.1 (by rw [HZ.o];omega),?_⟩;exact Below.grown aV.o.1 HX.o.2.2.2 aV.o.1.size (fun g hg=>by have:=(HV.o.lt g hg).1;rw [HZ.o] at this;omega)
 obtain⟨i,rfl,hbr⟩:∃ i:Nat,u=yE yI i∧br k=yP i:=by
  unfold nM at hf;cases e:br k with
  | none=>rw [e] at hf;cases hf
  | some i=>rw [e] at hf;cases hf;exact⟨i,rfl,rfl⟩
 have rW:k∉l.map (·.1):=fun e=>by
  obtain⟨x,hx,rfl⟩:=zj.1 e;have:=((HM.o.2 x.1 x.2).1 hx).2;rw [hl] at this;cases this
 have hm':((l ++ [(k,i)]).map (·.1)).Nodup∧∀ k' i',(k',i')∈l ++ [(k,i)]↔(br k'=yP i'∧(lf k' && !decide (k'=k))=false):=by
  refine⟨?_,fun k' i'=>?_⟩
  ·rw [List.map_append,List.nodup_append];refine⟨HM.o.1,by simp,fun a ha b hb=>?_⟩;have e:b=k:=by simpa using hb
   rw [e];exact fun e2=>rW (e2 ▸ ha)
  rw [za,HM.o.2 k' i'];by_cases e:k'=k
  ·subst e;simp only [hl,hbr,List.mem_singleton,Prod.mk.injEq,true_and,decide_true,Bool.not_true,Bool.and_false];simp;exact eq_comm
  simp [e]
 have hlen:=HL.o (l ++ [(k,i)]) hm'.1 (fun x hx=>((hm'.2 x.1 x.2).1 hx).1);have hk2:Below w.heap.size w w2:=Below.grown aV.o.1 hgr aV.o.1.size (fun g hg=>by cases hg;rw [HR.o];exact ye _)
 have hv2:w2.ownsRow w1.heap.size 65 2 v l.length (o8 l):=cF HV.o fun g hg=>hgr.block g (HV.o.lt g hg).2 (fun e=>by
  have e:=Option.some.inj e;have:=(HV.o.lt g hg).1;have h1:=HR.o;have h2:=HZ.o;omega)
 have mO:=yN hrg2;have ND:=yN hm';have aH:Hid (Kept w w2∧w1.heap.size≤w2.heap.size):=yN ⟨hk2,by rw [hsz];exact aV.o.2⟩;have CP:=yN hv2;have jG:l.length≤1000:=by simp at hlen;omega
 clear rW hm' hlen hk2 hv2 hrg2 hgr hsz hl hf;go_wp2_with (at_builtin;go_must (refine CC (v:=v) eiN rfl _ _ rfl w1.heap.size l.length [yA k,yE yI (i:Nat)] rfl CP.o aH.o.2 rfl rfl (by intro u hu;simp at hu;rcases hu with rfl | rfl <;> rfl) (by omega) ?_));intro v3 w3 hown gV hgrow hat
 have hr3:RG 9 gs w3 bb r nb (nM br) (fun j=>lf j && !decide (j=k)) cnt':=mO.o.stay (hgrow.block bb mO.o.mf.lt (fun e=>by
  obtain⟨cur,hc⟩:=dX CP.o e.symm;obtain⟨es,ck,hb⟩:=mO.o.mf.heap
  rw [hb] at hc;cases hc)) (hgrow.block r mO.o.lt (fun e=>by
  obtain⟨cur,hc⟩:=dX CP.o e.symm;obtain⟨a,b,c,d,hb⟩:=mO.o.iter
  rw [hb] at hc;cases hc))
 have OU:=yN hr3;have fX:Hid (w3.ownsRow w1.heap.size 65 2 v3 (l ++ [(k,i)]).length (o8 (l ++ [(k,i)]))):=yN (by rw [aV4,yy];exact hown);have aL:Hid (Kept w w3∧w1.heap.size≤w3.heap.size):=yN ⟨yn aH.o.1 (Below.mono gV (by rw [HZ.o];omega)),yf aH.o.2 hgrow.size⟩;clear hr3 hown gV hgrow hat;go_wp2_with fail;go_roundg cnt';case measure=>omega
 exact⟨v3,l ++ [(k,i)],cnt',fun j=>lf j && !decide (j=k),rfl,ye _,OU,fX,ND,aL⟩
end
section
open Sip
attribute [local irreducible] look
variable {K:Kn} {V:VI} {n nb:Nat} {par:Nat→List Nat} {tm:Nat→Mp} {br:Key→Option Nat}
theorem aQW (w:World) (h:VR K V n nb par tm br w) (hlen:∀ l:List Nm,(l.map (·.1)).Nodup→(∀ x∈l,br x.1=yP x.2)→l.length≤1000) :
  Calls yM 141 #[yB (yP ⟨V.vb,0,yO⟩)] w (aJB br w):=by
 have c8:=ch 8 h.c;have HL:=yN (aY4 w h.b hlen);go_enter func141,ntmps141;go_wp2_with fail;refine HL.o.mono ?_;rintro e w' ⟨v,l,rfl,hn,ho,hk⟩;have HX:=yN (yd hn (yd ho hk));go_wp2_with fail;go_ret;exact⟨v,l,rfl,HX.o.1,HX.o.2.1,HX.o.2.2⟩
def a4H (n:Nat) (par:Nat→List Nat) (w:World) (e:Ending) (w':World):Prop:=∃ AO E8 F,e = .returned (yB (yP ⟨AO,0,yO⟩))∧GR w' AO E8 n par F∧Kept w w'
theorem aTP (w:World) (h:VR K V n nb par tm br w) :
  Calls yM 143 #[yB (yP ⟨V.vb,0,yO⟩)] w (a4H n par w):=by
 have c6:=ch 6 h.c;obtain⟨F,hF⟩:=h.g;have HL:=yN (aV7 V.gb V.pb n par F w hF);go_enter func143,ntmps143;go_wp2_with fail;refine HL.o.mono ?_;rintro e w' ⟨AO,E8,rfl,hg,hk⟩;have HX:=yN (yd hg hk);go_wp2_with fail;go_ret;exact⟨AO,E8,F,rfl,HX.o.1,HX.o.2⟩
theorem aV9 (x:Nat) (w:World) (hx:1≤x):Calls yM 309 #[yE yI x] w fun e w'=>e = .returned (yD false)∧Kept w w':=by
 have hb:((x:Int) == 0)=false:=by simp;omega
 have hd:decide ((x:Int)=0)=false:=by simp;omega
 go_enter func309,ntmps309;go_wp2_with fail;go_ret;exact⟨rfl,yk _ _⟩
theorem aWA (w:World):Calls yM 309 #[yE yI 0] w fun e w'=>e = .returned (yD true)∧w=w':=by
 go_enter func309,ntmps309;go_wp2_with fail;go_ret;exact⟨rfl,rfl⟩
theorem aR1 (v:Value) (l:List Nat) (w:World) (h:Rd w v l.length (cW l)) (hl:l.length≤1000) (hx:∀ x∈l,1≤x) :
  Calls yM 308 #[v,yG (.func 309) #[] #[]] w fun e w'=>e = .returned v∧Kept w w':=by
 have hul:(cW l).length=l.length:=by simp [cW]
 rw [← hul] at h
 have HI:=yN (aF4 309 #[] v (cW l) w (enters_of func309 (by kernel_rfl) rfl) h (by omega) (fun u hu wr hk=>by
  obtain⟨p,hp,rfl⟩:=zj.1 hu
  exact aV9 p wr (hx p hp)))
 go_enter func308,ntmps308;go_wp2_with fail;refine HI.o.mono ?_;rintro e w' ⟨rfl,hk⟩;go_wp2_with fail;go_ret;exact⟨rfl,hk⟩
theorem aEK (v:Value) (l:List Nat) (w:World) (h:Rd w v l.length (cW l)) (hl:l.length≤1000) (hx:∀ x∈l,1≤x) :
  Calls yM 244 #[v] w fun e w'=>e = .returned v∧Kept w w':=by
 have HD:=yN (aR1 v l w h hl hx);go_enter func244,ntmps244;go_wp2_with fail;refine HD.o.mono ?_;rintro e w' ⟨rfl,hk⟩;go_wp2_with fail;go_ret;exact⟨rfl,hk⟩
end
section
open Sip
attribute [local irreducible] look
section
variable {P:Program} {ops:Array Oper} {Q:Exit→Act→World→Prop} {md:Region.Mode} {S:World→Prop}
theorem oU {f:Nat} {l:Array Bool} {a:Act} {w:World} {xs:List Nat} (hr:Region.ready md ops l=xs) (hne:xs≠[])
  (h:∀ x∈xs,∀ K:Act→World→Prop,(∀ a' w',S w'→AnyH P md ops Q S f (l.setIfInBounds x true) a' w'→K a' w')→
   ∃ ox,ops[x]?=yP ox∧if Region.wanted ox (yielded ops a.tmps)=true then Oper.wp P ox a w K Q else K (a.put ox.dst undef) w):AnyH P md ops Q S (f+1) l a w:=
 ⟨fun e=>absurd (hr.symm.trans e) hne,fun i hi=>by
  rw [hr] at hi;obtain⟨ox,hx,_⟩:=h i hi (fun _ _=>True) (fun _ _ _ _=>trivial);refine wpOp_step hx fun K hK=>?_;obtain⟨ox',uI,hh⟩:=h i hi K (fun a' w' h1 h2=>hK a' w' ⟨h1,h2⟩);rw [hx] at uI;cases uI
  exact hh⟩
end
theorem aZF (K:Kn) (k0 k1 mk:UInt64) (hK:K = .champ k0 k1 mk∨K = .radix) (w:World):Calls yM 95 #[yE yH K.nr,yF #[yE yJ (nu k0),yE yJ (nu k1),yE yJ (nu mk)]] w fun e w'=>∃ eb,e = .returned (.tuple #[yF #[yE yH K.nr,yE yJ K.u0,yE yJ K.u1,yE yJ K.u2,yB (K.p4 eb),yB (K.p5 eb)],yE yH 0])∧K.is w' eb none_∧Kept w w':=by
 rcases hK with rfl | rfl
 ·refine (aFD k0 k1 mk w).mono ?_;rintro e w' ⟨b,rfl,h⟩;exact⟨b,by rw [← jA],h⟩
 refine (aFE k0 k1 mk w).mono ?_;rintro e w' ⟨b,rfl,h⟩;exact⟨b,by rw [← jA],h⟩
def a6S (K:Kn) (w:World) (e:Ending) (w':World):Prop:=∃ V:VI,e = .returned (.tuple #[yB (yP ⟨V.vb,0,yO⟩),yE yH 0])∧VR K V 0 0 (fun _=>[]) (fun _=>none_) (fun _=>yO) w'∧Kept w w'∧w.heap.size≤V.vb∧∀ i,V.S i→w.heap.size≤i
theorem aWI (K:Kn) (gb pb tb bb tg eb:Nat) (v w:World) (hk:Kept w v) (he:K.is v eb none_) (hg:GR v gb pb 0 (fun _=>[]) (fun _=>yO)) (ht:MF 35 gu v tb 0 (fun _=>yO)) (hb:MF 9 gs v bb 0 (fun _=>yO)) (h12:pb≠tb) (h13:pb≠bb) (h23:tb≠bb) (hz1:w.heap.size≤gb∧w.heap.size≤pb) (hz2:w.heap.size≤tb) (hz3:w.heap.size≤bb) :
  VR K ⟨v.heap.size,gb,pb,tb,bb,tg,eb⟩ 0 0 (fun _=>[]) (fun _=>none_) (fun _=>yO) (v.alloc (yL #[yE yH K.nr,yE yJ K.u0,yE yJ K.u1,yE yJ K.u2,yB (K.p4 eb),yB (K.p5 eb),yB (yP ⟨gb,0,yO⟩),.map (yP tb),.map (yP bb),.map (yP tg)] 188))∧Kept w (v.alloc (yL #[yE yH K.nr,yE yJ K.u0,yE yJ K.u1,yE yJ K.u2,yB (K.p4 eb),yB (K.p5 eb),yB (yP ⟨gb,0,yO⟩),.map (yP tb),.map (yP bb),.map (yP tg)] 188))∧w.heap.size≤v.heap.size∧∀ i,VI.S ⟨v.heap.size,gb,pb,tb,bb,tg,eb⟩ i→w.heap.size≤i:=by
 have aA:=aZ v (yL #[yE yH K.nr,yE yJ K.u0,yE yJ K.u1,yE yJ K.u2,yB (K.p4 eb),yB (K.p5 eb),yB (yP ⟨gb,0,yO⟩),.map (yP tb),.map (yP bb),.map (yP tg)] 188);refine⟨⟨bM v _,he.kept aA,⟨_,hg.kept aA⟩,⟨fun _=>0,(ht.kept aA).funext fun i=>?_,fun i h1 h2=>absurd h1 (by omega)⟩,(hb.kept aA).funext fun k=>rfl,fun k i h=>(by cases h),fun i h1 h2=>absurd h1 (by omega),⟨h12,h13,h23⟩,by omega⟩,aB hk aA,hk.size,fun i hi=>by rcases hi with rfl | rfl | rfl | rfl;exact hz1.1;exact hz1.2;exact hz2;exact hz3⟩;unfold oZ;rw [if_neg (by omega)]
theorem aZG (K:Kn) (k0 k1 mk:UInt64) (hK:K = .champ k0 k1 mk∨K = .radix) (w:World) :
  Calls yM 44 #[yE yH K.nr,yF #[yE yJ (nu k0),yE yJ (nu k1),yE yJ (nu mk)]] w (a6S K w):=by
 have aA:=aZ w (yL #[yE yJ (nu k0),yE yJ (nu k1),yE yJ (nu mk)] 26);have aO:=bM w (yL #[yE yJ (nu k0),yE yJ (nu k1),yE yJ (nu mk)] 26);obtain⟨hb,gM⟩:∃ hb,hb=w.heap.size:=⟨_,rfl⟩;have HA:=yN aA;have qV:=@run_makeMap yM;go_enter func44,ntmps44;go_upto_region 1 with fail;rw [← gM] at aO ⊢;generalize w.alloc _=w1 at *;clear gM aA;have e0:=ch 0 aO;have e1:=ch 1 aO;have e2:=ch 2 aO;clear aO;go_wp2_with fail;refine (aZF K k0 k1 mk hK w1).mono ?_;rintro e w2 ⟨eb,rfl,he,hk⟩;have HE:=yN (yd he (aB HA.o hk));clear he hk e0 e1 e2 HA;go_upto_region 2 with fail;have aA:=aZ w2 (yL #[yE yH K.nr,yE yJ K.u0,yE yJ K.u1,yE yJ K.u2,yB (K.p4 eb),yB (K.p5 eb)] 179);have aO:=bM w2 (yL #[yE yH K.nr,yE yJ K.u0,yE yJ K.u1,yE yJ K.u2,yB (K.p4 eb),yB (K.p5 eb)] 179);obtain⟨xb,fP⟩:∃ xb,xb=w2.heap.size:=⟨_,rfl⟩;rw [← fP] at aO ⊢;generalize w2.alloc _=w3 at *;clear fP;have sY:Hid ((fun W:World=>W.cell? ⟨xb,0,yO⟩=yP (yE yH K.nr)∧W.cell? ⟨xb,1,yO⟩=yP (yE yJ K.u0)∧W.cell? ⟨xb,2,yO⟩=yP (yE yJ K.u1)∧W.cell? ⟨xb,3,yO⟩=yP (yE yJ K.u2)∧W.cell? ⟨xb,4,yO⟩=yP (yB (K.p4 eb))∧W.cell? ⟨xb,5,yO⟩=yP (yB (K.p5 eb))) w3.drew):=yN ⟨ch 0 aO,ch 1 aO,ch 2 aO,ch 3 aO,ch 4 aO,ch 5 aO⟩;have bG:Hid (Kept w w3.drew∧K.is w3.drew eb none_):=yN ⟨ym (aB HE.o.2 aA),(HE.o.1.kept aA).kept (ym (yk _ _))⟩;clear aO aA HE;go_wp2_with fail;refine aE2 (fun W:World=>W.cell? ⟨xb,0,yO⟩=yP (yE yH K.nr)∧W.cell? ⟨xb,1,yO⟩=yP (yE yJ K.u0)∧W.cell? ⟨xb,2,yO⟩=yP (yE yJ K.u1)∧W.cell? ⟨xb,3,yO⟩=yP (yE yJ K.u2)∧W.cell? ⟨xb,4,yO⟩=yP (yB (K.p4 eb))∧W.cell? ⟨xb,5,yO⟩=yP (yB (K.p5 eb))) 9 (by kernel_rfl) (by kernel_rfl) ?_;generalize w3.drew=v0 at *;have CV:Hid (∀ W,Kept v0 W→(fun W:World=>W.cell? ⟨xb,0,yO⟩=yP (yE yH K.nr)∧W.cell? ⟨xb,1,yO⟩=yP (yE yJ K.u0)∧W.cell? ⟨xb,2,yO⟩=yP (yE yJ K.u1)∧W.cell? ⟨xb,3,yO⟩=yP (yE yJ K.u2)∧W.cell? ⟨xb,4,yO⟩=yP (yB (K.p4 eb))∧W.cell? ⟨xb,5,yO⟩=yP (yB (K.p5 eb))) W):=yN fun W hk=>⟨hk.cell sY.o.1,hk.cell sY.o.2.1,hk.cell sY.o.2.2.1,hk.cell sY.o.2.2.2.1,hk.cell sY.o.2.2.2.2.1,hk.cell sY.o.2.2.2.2.2⟩;have HW0:=yN (show Kept v0 v0 from yk _ _);refine tH 0 sY ?_;go_frame;clear sY;have HW:=yN (show Kept v0 v0 from yk _ _)
 iterate 4
  all_goals
   rename World=>v
   first
   | (have _g:=H2;clear _g;have _g:=H3;clear _g;have _g:=H4;clear _g;refine oU (xs:=[1]) (by kernel_rfl) (by simp) fun x hx K' hK=>?_;simp only [yx,zc,or_false] at hx)
   | (have _g:=H1;clear _g;have _g:=H3;clear _g;have _g:=H4;clear _g;refine oU (xs:=[2]) (by kernel_rfl) (by simp) fun x hx K' hK=>?_;simp only [yx,zc,or_false] at hx)
   | (have _g:=H1;clear _g;have _g:=H2;clear _g;have _g:=H4;clear _g;refine oU (xs:=[3]) (by kernel_rfl) (by simp) fun x hx K' hK=>?_;simp only [yx,zc,or_false] at hx)
   | (have _g:=H1;clear _g;have _g:=H2;clear _g;have _g:=H3;clear _g;refine oU (xs:=[4]) (by kernel_rfl) (by simp) fun x hx K' hK=>?_;simp only [yx,zc,or_false] at hx)
   | (have _g:=H3;clear _g;have _g:=H4;clear _g;refine oU (xs:=[1,2]) (by kernel_rfl) (by simp) fun x hx K' hK=>?_;simp only [yx,zc,or_false] at hx;rcases hx with hx | hx)
   | (have _g:=H2;clear _g;have _g:=H4;clear _g;refine oU (xs:=[1,3]) (by kernel_rfl) (by simp) fun x hx K' hK=>?_;simp only [yx,zc,or_false] at hx;rcases hx with hx | hx)
   | (have _g:=H2;clear _g;have _g:=H3;clear _g;refine oU (xs:=[1,4]) (by kernel_rfl) (by simp) fun x hx K' hK=>?_;simp only [yx,zc,or_false] at hx;rcases hx with hx | hx)
   | (have _g:=H1;clear _g;have _g:=H4;clear _g;refine oU (xs:=[2,3]) (by kernel_rfl) (by simp) fun x hx K' hK=>?_;simp only [yx,zc,or_false] at hx;rcases hx with hx | hx)
   | (have _g:=H1;clear _g;have _g:=H3;clear _g;refine oU (xs:=[2,4]) (by kernel_rfl) (by simp) fun x hx K' hK=>?_;simp only [yx,zc,or_false] at hx;rcases hx with hx | hx)
   | (have _g:=H1;clear _g;have _g:=H2;clear _g;refine oU (xs:=[3,4]) (by kernel_rfl) (by simp) fun x hx K' hK=>?_;simp only [yx,zc,or_false] at hx;rcases hx with hx | hx)
   | (have _g:=H1;clear _g;refine oU (xs:=[2,3,4]) (by kernel_rfl) (by simp) fun x hx K' hK=>?_;simp only [yx,zc,or_false] at hx;rcases hx with hx | hx | hx)
   | (have _g:=H2;clear _g;refine oU (xs:=[1,3,4]) (by kernel_rfl) (by simp) fun x hx K' hK=>?_;simp only [yx,zc,or_false] at hx;rcases hx with hx | hx | hx)
   | (have _g:=H3;clear _g;refine oU (xs:=[1,2,4]) (by kernel_rfl) (by simp) fun x hx K' hK=>?_;simp only [yx,zc,or_false] at hx;rcases hx with hx | hx | hx)
   | (have _g:=H4;clear _g;refine oU (xs:=[1,2,3]) (by kernel_rfl) (by simp) fun x hx K' hK=>?_;simp only [yx,zc,or_false] at hx;rcases hx with hx | hx | hx)
   | (refine oU (xs:=[1,2,3,4]) (by kernel_rfl) (by simp) fun x hx K' hK=>?_;simp only [yx,zc,or_false] at hx;rcases hx with hx | hx | hx | hx)
  all_goals
   first
   |(obtain rfl:x=1:=hx;refine⟨_,rfl,?_⟩;go_simp;refine (aYC _).mono ?_;rintro e vn ⟨gb,pb,rfl,hgb,kU,hg,hk⟩;have H1:=yN hg;have hz1:w.heap.size≤gb∧w.heap.size≤pb:=⟨yf (aB bG.o.1 HW.o).size hgb,yf (aB bG.o.1 HW.o).size kU⟩;try have aLU:pb≠tb:=by have:=H2.o.lt;omega
     try have aLV:pb≠bb:=by have:=H3.o.lt;omega
     (try have H2:=yN (H2.o.kept hk));(try have H3:=yN (H3.o.kept hk))
     have HW:=yN (aB HW.o hk);refine hK _ _ (CV.o _ HW.o) ?_;clear hK K' hk hg hgb kU)
   |(obtain rfl:x=2:=hx;refine⟨_,rfl,?_⟩;go_simp;have hk:Kept v (v.alloc (.map #[] 0)):=(yk _ _).alloc (ye _) _;have wQ:=MF.made 35 gu v;obtain⟨tb,j7⟩:∃ b,b=v.heap.size:=⟨_,rfl⟩;rw [← j7] at wQ ⊢;try have aLU:pb≠tb:=by have:=H1.o.m.lt;omega
     try have aLW:tb≠bb:=by have:=H3.o.lt;omega
     have hz2:w.heap.size≤tb:=by rw [j7];exact (aB bG.o.1 HW.o).size
     clear j7;generalize v.alloc _=vn at *;have H2:=yN wQ
     (try have H1:=yN (H1.o.kept hk));(try have H3:=yN (H3.o.kept hk))
     have HW:=yN (aB HW.o hk);refine hK _ _ (CV.o _ HW.o) ?_;clear hK K' hk wQ)
   |(obtain rfl:x=3:=hx;refine⟨_,rfl,?_⟩;go_simp;have hk:Kept v (v.alloc (.map #[] 0)):=(yk _ _).alloc (ye _) _;have wQ:=MF.made 9 gs v;obtain⟨bb,j7⟩:∃ b,b=v.heap.size:=⟨_,rfl⟩;rw [← j7] at wQ ⊢;try have aLV:pb≠bb:=by have:=H1.o.m.lt;omega
     try have aLW:tb≠bb:=by have:=H2.o.lt;omega
     have hz3:w.heap.size≤bb:=by rw [j7];exact (aB bG.o.1 HW.o).size
     clear j7;generalize v.alloc _=vn at *;have H3:=yN wQ
     (try have H1:=yN (H1.o.kept hk));(try have H2:=yN (H2.o.kept hk))
     have HW:=yN (aB HW.o hk);refine hK _ _ (CV.o _ HW.o) ?_;clear hK K' hk wQ)
   |(obtain rfl:x=4:=hx;refine⟨_,rfl,?_⟩;go_simp;have hk:Kept v (v.alloc (.map #[] 0)):=(yk _ _).alloc (ye _) _;have wQ:=MF.made 9 gs v;obtain⟨tg,j7⟩:∃ b,b=v.heap.size:=⟨_,rfl⟩;rw [← j7] at wQ ⊢;clear j7;generalize v.alloc _=vn at *;have H4:=yN wQ
     (try have H1:=yN (H1.o.kept hk));(try have H2:=yN (H2.o.kept hk));(try have H3:=yN (H3.o.kept hk))
     have HW:=yN (aB HW.o hk);refine hK _ _ (CV.o _ HW.o) ?_;clear hK K' hk wQ)
 all_goals
  rename World=>v
  refine cL 5 (CV.o _ HW.o) (h:=?_);go_frame;refine oH 6 fun K' hK=>?_;go_simp;have hlf:=aWI K gb pb tb bb tg eb v w (aB bG.o.1 HW.o) (bG.o.2.kept HW.o) H1.o H2.o H3.o aLU aLV aLW hz1 hz2 hz3;refine hK _ _ (CV.o _ (aB HW.o ((yk _ _).alloc (ye _) _))) ?_;clear hK K';refine cL 7 (CV.o _ (aB HW.o (aZ _ _))) (h:=?_);go_frame;refine cL 8 (CV.o _ (aB HW.o ((yk _ _).alloc (ye _) _))) (h:=?_);go_frame;refine QC (by kernel_rfl) ?_ _;have HLF:=yN hlf;clear hlf;go_wp2_with fail;go_ret2;exact⟨_,rfl,HLF.o⟩
end
section
open Sip
theorem aTQ (g cap:Nat) (w:World) (hc:w.cell? ⟨g,0,yO⟩=yP (yE yI 0)) :
  Calls yM 375 #[yC (yP ⟨g,0,yO⟩) 1 cap,yG (.func 309) #[] #[]] w fun e w'=>e = .returned (yE yH 0)∧w'=w:=by
 have eg:=enters_of func309 (by kernel_rfl) rfl;go_enter func375,ntmps375;go_wp2_with fail
 go_loopg [8] 1 (fun kx s8 wr=>s8=yE yH 0∧wr=w)
 case atStart=>exact⟨rfl,rfl⟩
 obtain⟨rfl,rfl⟩:=hrel;go_wp2_with fail;refine (aWA _).mono ?_;rintro e w' ⟨rfl,rfl⟩;go_wp2_with fail;go_ret;exact⟨rfl,rfl⟩
theorem aR2 (g cap:Nat) (cur:Array Value) (w:World) (hb:w.heap[g]?=yP (yL cur 35)) (hc:w.cell? ⟨g,0,yO⟩=yP (yE yI 0)) (iE:1≤cap) (hcm:cap≤maxLen) :
  Calls yM 308 #[yC (yP ⟨g,0,yO⟩) 1 cap,yG (.func 309) #[] #[]] w fun e w'=>e = .returned (yC (yP ⟨g,0,yO⟩) 0 cap)∧Sm (fun i=>i=g) w w':=by
 have HB:=yN hb;have G7:∀ ty cp,(Builtin.clear_ #[38] ty #[yC (yP ⟨g,0,yO⟩) 1 cp]).run yM w = .ok (.tuple #[]) (w.setCells g 0 (zm ((yE yI 0):Value).cells 1).toList):=fun ty cp=>
  PZ w _ ty 35 (yE yI 0) g 0 1 cp underlying38 aHQ (by decide) (fun j hj=>by
   have e:j=0:=by simp [Value.cells] at hj;omega
   subst e
   rw [show (0+0:Nat)=0 from rfl,hc];rfl) (fun j hj=>aU hb) (by simp [zm,Value.cells,Value.oneCell'])
 have hw2:Sm (fun i=>i=g) w (w.setCells g 0 (zm ((yE yI 0):Value).cells 1).toList):=by
  have e:(zm ((yE yI 0):Value).cells 1).toList=[yE yI 0]:=by simp [zm,Value.cells]
  rw [e]
  exact⟨rfl,rfl,rfl,by simp [World.setCells,World.setCell],fun i _ hi=>by
   show (w.setCell ⟨g,0,yO⟩ (yE yI 0)).heap[i]?=_
   exact yl _ _ _ _ (by simpa using hi)⟩
 have HW2:=yN hw2;generalize w.setCells g 0 (zm ((yE yI 0):Value).cells 1).toList=w2 at *;have hf:w.frozen? ⟨g,0,yO⟩=false:=aU hb;go_enter func308,ntmps308;go_wp2_with fail;refine (aTQ g cap w hc).mono ?_;rintro e w' ⟨rfl,rfl⟩;go_wp2_with fail
 go_loopg [6,7,5] 1 (fun kx s6 s7 s5 wr=>s6=yE yH 1∧s5=yE yH 0∧wr=w')
 case atStart=>exact⟨rfl,rfl,rfl⟩
 obtain⟨rfl,rfl,rfl⟩:=hrel;go_wp2_with fail;go_ret;exact⟨rfl,HW2.o⟩
theorem aQX (g cap:Nat) (cur:Array Value) (w:World) (hb:w.heap[g]?=yP (yL cur 35)) (hc:w.cell? ⟨g,0,yO⟩=yP (yE yI 0)) (iE:1≤cap) (hcm:cap≤maxLen) :
  Calls yM 244 #[yC (yP ⟨g,0,yO⟩) 1 cap] w fun e w'=>e = .returned (yC (yP ⟨g,0,yO⟩) 0 cap)∧Sm (fun i=>i=g) w w':=by
 have HD:=yN (aR2 g cap cur w hb hc iE hcm);go_enter func244,ntmps244;go_wp2_with fail;refine HD.o.mono ?_;rintro e w' ⟨rfl,hk⟩;go_wp2_with fail;go_ret;exact⟨rfl,hk⟩
end
section
open Sip
attribute [local irreducible] look
variable {ids P:List Nat}
inductive wJ (n:Nat):List Nat→List Nat→Prop
 | zero:wJ n [0] []
 | one (x:Nat) (h:1≤x∧x≤n):wJ n [x] [x]
 | two (x y:Nat) (hx:1≤x∧x≤n) (hy:1≤y∧y≤n) (h:x≠y):wJ n [x,y] [x,y]
theorem wJ.a8X {n:Nat} (h:wJ n ids P):Two P:=by
 cases h with
 | zero=>exact .none
 | one x _=>exact .one x
 | two x y _ _ h=>exact .two x y h
theorem wJ.rg {n:Nat} (h:wJ n ids P):∀ p∈P,1≤p∧p≤n:=by
 cases h with
 | zero=>intro p hp;simp at hp
 | one x h=>intro p hp;simp at hp;subst hp;exact h
 | two x y hx hy h=>
  intro p hp;simp at hp;rcases hp with rfl | rfl
  ·exact hx
  exact hy
theorem aY6 {n:Nat} (g cap B:Nat) (ids P:List Nat) (w:World) (hI:wJ n ids P) (h:w.ownsRow B 35 1 (yC (yP ⟨g,0,yO⟩) ids.length cap) ids.length (cW ids)) :
  Calls yM 244 #[yC (yP ⟨g,0,yO⟩) ids.length cap] w fun e w'=>∃ v',e = .returned v'∧Rd w' v' P.length (cW P)∧Sm (fun i=>i=g) w w':=by
 cases hI with
 | zero=>
  obtain⟨cur,hb⟩:=dX h (g:=g) rfl;have hc:=h.cells (g:=g) rfl 0 (yE yI 0) rfl;rw [Addr.add_lit] at hc;have iE:1≤cap∧cap≤maxLen:=by
   rcases h.2 with ⟨e,_⟩ | ⟨g',cap',cur',e,_,_,h3,h4,_,_⟩
   ·cases e
   cases e;exact⟨h3,h4⟩
  refine (aQX g cap cur w hb hc iE.1 iE.2).mono ?_;rintro e w' ⟨rfl,hs⟩;exact⟨_,rfl,.inl ⟨_,_,rfl,iE.2,rfl,rfl⟩,hs⟩
 | one x hx=>
  refine (aEK _ [x] w (dH h) (by simp) (by simp;exact hx.1)).mono ?_;rintro e w' ⟨rfl,hk⟩;exact⟨_,rfl,(dH h).kept hk,Sm.kept hk⟩
 | two x y hx hy hne=>
  refine (aEK _ [x,y] w (dH h) (by simp) (by simp;exact⟨hx.1,hy.1⟩)).mono ?_;rintro e w' ⟨rfl,hk⟩;exact⟨_,rfl,(dH h).kept hk,Sm.kept hk⟩
variable {K:Kn} {V:VI} {n nb:Nat} {par:Nat→List Nat} {tm:Nat→Mp} {br:Key→Option Nat}
def aJ0 (K:Kn) (V:VI) (n nb:Nat) (par:Nat→List Nat) (tm:Nat→Mp) (br:Key→Option Nat) (P:List Nat) (f:Mp) (name:Key) (w0:World) (e:Ending) (w':World):Prop:=
 e = .returned (.tuple #[yE yI ((n:Int)+1),yE yH 0])∧VR K V (n+1) nb (fun i=>if i=n+1 then P else par i) (fun i=>if i=n+1 then f else tm i) (fun k=>if k=name then yP (n+1) else br k) w'∧Sm V.S w0 w'
theorem aWB {K:Kn} {n c:Nat} {tr:Nat→Nat} (i:Nat):(if i=n+1 then yP (K.tv c) else oZ K n tr i)=oZ K (n+1) (fun j=>if j=n+1 then c else tr j) i:=by
 unfold oZ;by_cases e:i=n+1;·subst e;simp
 simp only [e,if_false];by_cases h:1≤i∧i≤n;·rw [if_pos h,if_pos (by omega)]
 rw [if_neg h,if_neg (by omega)]
theorem aEW (g cap c:Nat) (ids P:List Nat) (f:Mp) (name:Key) (w0 w:World) (h:VR K V n nb par tm br w0) (bF:Kept w0 w) (hI:wJ n ids P) (hg:w0.heap.size≤g)
  (hv:w.ownsRow w0.heap.size 35 1 (yC (yP ⟨g,0,yO⟩) ids.length cap) ids.length (cW ids)) (hc:K.is w0 c f) (hf:aM f 1000) (hs:name.size≤100) (hb:(br name).isSome=true) (hn:n<100) :
  Calls yM 175 #[yB (yP ⟨V.vb,0,yO⟩),yA name,yF #[yE yH K.nr,yE yJ K.u0,yE yJ K.u1,yE yJ K.u2,yB (K.p4 c),yB (K.p5 c)],yC (yP ⟨g,0,yO⟩) ids.length cap] w (aJ0 K V n nb par tm br P f name w0):=by
 obtain⟨aA,aO⟩:=aW w (yL #[yE yH K.nr,yE yJ K.u0,yE yJ K.u1,yE yJ K.u2,yB (K.p4 c),yB (K.p5 c)] 179);obtain⟨xb,fP⟩:∃ xb,xb=w.heap.size:=⟨_,rfl⟩;have N2:g≠xb:=by have:=(hv.lt g rfl).2;omega
 have hxw:w0.heap.size≤xb:=by rw [fP];exact bF.size
 have HA:=yN (yd (aB bF aA) (yd aO (bT hv aA)));have HV:=yN (yd h (yd hc hf));have HX:=yN (yd N2 (yd hxw hg));clear aA aO N2 hxw hv h hc hf bF;go_enter func175,ntmps175;go_upto_region 1 with fail;rw [← fP] at HA ⊢;generalize w.alloc _=w1 at *;clear fP;have nB:Kept w0 w1.drew:=ym HA.o.1;have HS:=yN (ch 6 ((HV.o.1.kept nB).c));have aP:=yN nB;have nJ:Hid (w1.drew.heap[xb]?=yP (yL #[yE yH K.nr,yE yJ K.u0,yE yJ K.u1,yE yJ K.u2,yB (K.p4 c),yB (K.p5 c)] 179)):=yN HA.o.2.1;have HOW:Hid (w1.drew.ownsRow w0.heap.size 35 1 (yC (yP ⟨g,0,yO⟩) ids.length cap) ids.length (cW ids)):=yN HA.o.2.2;clear nB HA;go_wp2_with fail;refine nX (fun W:World=>W.cell? ⟨V.vb,6,yO⟩=yP (yB (yP ⟨V.gb,0,yO⟩))) 12 ?_;generalize w1.drew=w2 at *;refine tH 0 HS ?_;refine tH 1 HS ?_;refine tH 2 HS ?_;refine tH 3 HS ?_;go_frame;refine tH 4 HS ?_;go_frame;refine oH 5 fun K' hK=>?_;go_simp;refine (aY6 g cap w0.heap.size ids P w2 hI HOW.o).mono ?_;rintro e w3 ⟨v',rfl,wE,hsm⟩;have hk3:Kept w0 w3:=yn aP.o (hsm.below (fun i hi=>by subst hi;exact HX.o.2.2) aP.o.size);have jF:Hid ((fun W:World=>W.cell? ⟨V.vb,6,yO⟩=yP (yB (yP ⟨V.gb,0,yO⟩))) w3):=yN (ch 6 ((HV.o.1.kept hk3).c));have aL:=yN hk3;have OU:=yN wE;have Z1:=yN ((hsm.same xb (yo.1 nJ.o).1 (fun e=>HX.o.1 e.symm)).trans nJ.o);refine hK _ _ jF.o ?_;clear hK K' hk3 wE hsm HS HOW nJ aP;have cT:=yN (HV.o.1.kept aL.o);have EE:=cT.o.n100;obtain⟨F,hF⟩:=cT.o.g;refine oH 6 fun K' hK=>?_;go_simp;refine (a3G V.gb V.pb n par F P v' w3 hF OU.o hI.rg hI.a8X hn).mono ?_;rintro e w4 ⟨F',rfl,hG4,aLH⟩;have nG:=yN hG4;have hsV:Sm V.S w3 w4:=aLH.more fun i hi=>by
  rcases hi with rfl | rfl
  ·exact .inl rfl
  exact .inr (.inl rfl)
 have nO:=yN (hsV.cell jF.o cT.o.off);have oC:=yN hsV;have Z2:=yN aLH;clear hF hG4 aLH hsV;refine hK _ _ nO.o ?_;clear hK K';refine tH 7 nO ?_;refine tH 8 nO ?_;refine tH 9 nO ?_;refine tH 10 nO ?_;refine tH 11 nO ?_;go_frame;refine dA ?_;go_wp2_with fail;have aLI:Sm V.S w3 w4:=oC.o;have aLJ:=(aLI.same V.vb (yo.1 cT.o.c).1 cT.o.off).trans cT.o.c;obtain⟨tr,ht,wA⟩:=cT.o.t;have hne:=cT.o.MD;have hd:=cT.o.d
 have ht4:MF 35 gu w4 V.tb n (oZ K n tr):=ht.stay (Z2.o.same V.tb ht.lt (fun e=>by
  rcases e with e | e
  ·exact hne.2.1 e.symm
  exact hd.1 e.symm))
 have a8Y:MF 9 gs w4 V.bb nb (nM br):=cT.o.b.stay (Z2.o.same V.bb cT.o.b.lt (fun e=>by
  rcases e with e | e
  ·exact hne.2.2 e.symm
  exact hd.2.1 e.symm))
 have a6N:¬ V.S xb:=fun e=>by
  have hx:=Z1.o;have h1:=cT.o;obtain⟨F,hF⟩:=h1.g;rcases e with e | e | e | e
  ·rw [e,hF.c] at hx;cases hx
  ·obtain⟨es,ck,he⟩:=hF.m.heap;rw [e,he] at hx;cases hx
  ·obtain⟨es,ck,he⟩:=ht.heap;rw [e,he] at hx;cases hx
  obtain⟨es,ck,he⟩:=h1.b.heap;rw [e,he] at hx;cases hx
 have JC:=(aLI.same xb (yo.1 Z1.o).1 a6N).trans Z1.o;have hput:=(show MF 35 gu w4.drew V.tb n (oZ K n tr) from ht4).put KO oP underlying184 (by unfold maxLen;omega) (key:=yE yI ((n:Int)+1)) (i:=n+1) (by have h:=u7 (i:=n+1) (by omega);rwa [Int.natCast_add] at h) (K.tv c);obtain⟨w5,hrun,NF,kZ⟩:=hput;rw [jA] at hrun;have hno:(oZ K n tr (n+1)).isSome=false:=by unfold oZ;rw [if_neg (by omega)];rfl
 rw [hno] at NF;have uL:=yN (NF.funext fun i=>aWB i);have pR:=yN kZ;have l8:=yN (yd a8Y aLJ);have AP:=yN wA;have bJ:Hid ((fun W:World=>W.cell? ⟨V.vb,7,yO⟩=yP (.map (yP V.tb))∧W.cell? ⟨xb,0,yO⟩=yP (yE yH K.nr)∧W.cell? ⟨xb,1,yO⟩=yP (yE yJ K.u0)∧W.cell? ⟨xb,2,yO⟩=yP (yE yJ K.u1)∧W.cell? ⟨xb,3,yO⟩=yP (yE yJ K.u2)∧W.cell? ⟨xb,4,yO⟩=yP (yB (K.p4 c))∧W.cell? ⟨xb,5,yO⟩=yP (yB (K.p5 c))) w4.drew):=yN ⟨ch 7 aLJ,ch 0 JC,ch 1 JC,ch 2 JC,ch 3 JC,ch 4 JC,ch 5 JC⟩;clear aLI aLJ ht wA hne ht4 a8Y JC NF kZ hno;refine nX (fun W:World=>W.cell? ⟨V.vb,7,yO⟩=yP (.map (yP V.tb))∧W.cell? ⟨xb,0,yO⟩=yP (yE yH K.nr)∧W.cell? ⟨xb,1,yO⟩=yP (yE yJ K.u0)∧W.cell? ⟨xb,2,yO⟩=yP (yE yJ K.u1)∧W.cell? ⟨xb,3,yO⟩=yP (yE yJ K.u2)∧W.cell? ⟨xb,4,yO⟩=yP (yB (K.p4 c))∧W.cell? ⟨xb,5,yO⟩=yP (yB (K.p5 c))) 7 ?_;refine tH 0 bJ ?_;refine tH 1 bJ ?_;refine tH 2 bJ ?_;refine tH 3 bJ ?_;refine tH 4 bJ ?_;go_frame;refine tH 5 bJ ?_;go_frame;refine oH 6 fun K' hK=>?_;go_simp;refine hK _ _ ⟨pR.o.cell _ _ bJ.o.1,pR.o.cell _ _ bJ.o.2.1,pR.o.cell _ _ bJ.o.2.2.1,pR.o.cell _ _ bJ.o.2.2.2.1,pR.o.cell _ _ bJ.o.2.2.2.2.1,pR.o.cell _ _ bJ.o.2.2.2.2.2.1,pR.o.cell _ _ bJ.o.2.2.2.2.2.2⟩ ?_;clear hK K' hrun;refine QC (by kernel_rfl) ?_ _;have aLK:=(pR.o.same V.vb (fun e=>cT.o.off (.inr (.inr (.inl e))))).trans l8.o.2;have c8:=ch 8 aLK;have IL:MF 9 gs w5 V.bb nb (nM br):=l8.o.1.stay (pR.o.same V.bb (fun e=>cT.o.d.2.2 e.symm));obtain⟨w6,hrun,SY,ht6⟩:=IL.put XB JU underlying186 (by have:=cT.o.n;unfold maxLen;omega) (WN (s:=name) (by unfold maxLen;omega)) (yE yI ((n:Int)+1));have e1:(nM br name).isSome=true:=by
  unfold nM;cases e:br name with
  | none=>rw [e] at hb;cases hb
  | some i=>rfl
 rw [e1] at SY;have vW:=yN SY;have TT:=yN ht6;have sL:=yN aLK;clear SY ht6 aLK IL e1;go_wp2_with fail;go_ret2;have a8Z:Sm V.S w4 w5:=by
  have h:Sm V.S w4.drew w5:=(Sm.LG pR.o).more fun i hi=>.inr (.inr (.inl hi));exact⟨h.os,h.tape,h.output,h.size,h.same⟩
 have a81:Sm V.S w5 w6:=(Sm.LG TT.o).more fun i hi=>.inr (.inr (.inr hi));have Z3:Sm V.S w3 w6:=(oC.o.trans a8Z).trans a81;have kZ:vC w3 w6:=cT.o.turns Z3
 have hg5:GR w5 V.gb V.pb (n+1) (fun i=>if i=n+1 then P else par i) F':=(show GR w4.drew _ _ _ _ _ from nG.o.kept (ym (yk _ _))).off (S:=fun i=>i=V.tb) ⟨yh pR.o.size.symm,fun i _ hi=>pR.o.same i hi,fun i cur hi hc=>by
  obtain⟨es,ck,he⟩:=uL.o.heap;obtain⟨tr2,ht,_⟩:=cT.o.t;obtain⟨OA,ck2,he2⟩:=ht.heap
  have h4:w4.heap[V.tb]?=w3.heap[V.tb]?:=Z2.o.same V.tb ht.lt (fun e=>by
   rcases e with e | e
   ·exact cT.o.MD.2.1 e.symm
   exact cT.o.d.1 e.symm)
  rw [hi] at hc;have hc:w4.heap[V.tb]?=_:=hc
  rw [h4,he2] at hc;cases hc⟩ cT.o.MD.2.1 cT.o.d.1
 have vN:GR w6 V.gb V.pb (n+1) (fun i=>if i=n+1 then P else par i) F':=hg5.off (S:=fun i=>i=V.bb) ⟨yh TT.o.size.symm,fun i _ hi=>TT.o.same i hi,fun i cur hi hc=>by
  have h5:w5.heap[V.bb]?=w4.heap[V.bb]?:=pR.o.same V.bb (fun e=>cT.o.d.2.2 e.symm);obtain⟨OA,ck2,he2⟩:=l8.o.1.heap
  rw [hi,h5,he2] at hc;cases hc⟩ cT.o.MD.2.2 cT.o.d.2.1
 refine⟨rfl,⟨?_,cT.o.e.turn (tb:=0) kZ,⟨F',vN⟩,⟨fun j=>if j=n+1 then c else tr j,?_,?_⟩,?_,?_,?_,cT.o.d,cT.o.n⟩,?_⟩;·exact (Z3.same V.vb (yo.1 cT.o.c).1 cT.o.off).trans cT.o.c
 ·exact uL.o.stay (TT.o.same V.tb cT.o.d.2.2)
 ·intro i h1 h2;by_cases e:i=n+1
  ·subst e;simp only [if_true];exact (HV.o.2.1.kept aL.o).turn (tb:=0) kZ
  simp only [e,if_false];exact (AP.o i h1 (by omega)).turn (tb:=0) kZ
 ·refine vW.o.funext fun k=>?_;unfold nM;by_cases e:k=name;·simp [e]
  simp [e]
 ·intro k i hi;by_cases e:k=name;·simp [e] at hi;omega
  simp [e] at hi;have:=cT.o.bl k i hi;omega
 ·intro i h1 h2;by_cases e:i=n+1
  ·subst e;simp only [if_true];exact HV.o.2.2
  simp only [e,if_false];exact cT.o.few i h1 (by omega)
 exact (Sm.kept aL.o).trans Z3
end
section
open Sip
attribute [local irreducible] look
variable {K:Kn} {V:VI} {n nb:Nat} {par:Nat→List Nat} {tm:Nat→Mp} {br:Key→Option Nat}
theorem aTR (c x:Nat) (P:List Nat) (f:Mp) (name:Key) (w:World) (hI:wJ n [x] P) (h:VR K V n nb par tm br w) (hc:K.is w c f) (hf:aM f 1000) (hs:name.size≤100) (hb:br name=yP x) (hn:n<100) :
  Calls yM 133 #[yB (yP ⟨V.vb,0,yO⟩),yA name,yF #[yE yH K.nr,yE yJ K.u0,yE yJ K.u1,yE yJ K.u2,yB (K.p4 c),yB (K.p5 c)]] w (aJ0 K V n nb par tm br P f name w):=by
 have aA:=aZ w (yL #[yE yH K.nr,yE yJ K.u0,yE yJ K.u1,yE yJ K.u2,yB (K.p4 c),yB (K.p5 c)] 179);have aO:=bM w (yL #[yE yH K.nr,yE yJ K.u0,yE yJ K.u1,yE yJ K.u2,yB (K.p4 c),yB (K.p5 c)] 179);obtain⟨xb,fP⟩:∃ xb,xb=w.heap.size:=⟨_,rfl⟩;have HA:=yN (yd aA aO);have HV:=yN (yd h (yd hc hf));clear aA aO h hc hf;go_enter func133,ntmps133;go_upto_region 1 with fail;rw [← fP] at HA ⊢;generalize w.alloc _=w1 at *;clear fP;have I9:=yN (HV.o.1.kept HA.o.1);go_wp2_with fail;refine (Q8 name w1 I9.o hs).mono ?_;rintro e w' ⟨rfl,rfl⟩;rw [hb];have CJ:=I9.o.c;have hx:=HA.o.2;have bJ:Hid ((fun W:World=>W.cell? ⟨xb,0,yO⟩=yP (yE yH K.nr)∧W.cell? ⟨xb,1,yO⟩=yP (yE yJ K.u0)∧W.cell? ⟨xb,2,yO⟩=yP (yE yJ K.u1)∧W.cell? ⟨xb,3,yO⟩=yP (yE yJ K.u2)∧W.cell? ⟨xb,4,yO⟩=yP (yB (K.p4 c))∧W.cell? ⟨xb,5,yO⟩=yP (yB (K.p5 c))∧W.cell? ⟨V.vb,0,yO⟩=yP (yE yH K.nr)∧W.cell? ⟨V.vb,1,yO⟩=yP (yE yJ K.u0)∧W.cell? ⟨V.vb,2,yO⟩=yP (yE yJ K.u1)∧W.cell? ⟨V.vb,3,yO⟩=yP (yE yJ K.u2)∧W.cell? ⟨V.vb,4,yO⟩=yP (yB (K.p4 V.eb))∧W.cell? ⟨V.vb,5,yO⟩=yP (yB (K.p5 V.eb))) w1.drew):=
  yN ⟨ch 0 hx,ch 1 hx,ch 2 hx,ch 3 hx,ch 4 hx,ch 5 hx,ch 0 CJ,ch 1 CJ,ch 2 CJ,ch 3 CJ,ch 4 CJ,ch 5 CJ⟩
 clear CJ hx;go_wp2_with fail;refine aE2 (fun W:World=>W.cell? ⟨xb,0,yO⟩=yP (yE yH K.nr)∧W.cell? ⟨xb,1,yO⟩=yP (yE yJ K.u0)∧W.cell? ⟨xb,2,yO⟩=yP (yE yJ K.u1)∧W.cell? ⟨xb,3,yO⟩=yP (yE yJ K.u2)∧W.cell? ⟨xb,4,yO⟩=yP (yB (K.p4 c))∧W.cell? ⟨xb,5,yO⟩=yP (yB (K.p5 c))∧W.cell? ⟨V.vb,0,yO⟩=yP (yE yH K.nr)∧W.cell? ⟨V.vb,1,yO⟩=yP (yE yJ K.u0)∧W.cell? ⟨V.vb,2,yO⟩=yP (yE yJ K.u1)∧W.cell? ⟨V.vb,3,yO⟩=yP (yE yJ K.u2)∧W.cell? ⟨V.vb,4,yO⟩=yP (yB (K.p4 V.eb))∧W.cell? ⟨V.vb,5,yO⟩=yP (yB (K.p5 V.eb))) 8 (by kernel_rfl) (by kernel_rfl) ?_;have aP:Hid (Kept w w1.drew):=yN (ym HA.o.1);have HXd:Hid (w1.drew.heap[xb]?=yP (yL #[yE yH K.nr,yE yJ K.u0,yE yJ K.u1,yE yJ K.u2,yB (K.p4 c),yB (K.p5 c)] 179)):=yN HA.o.2;generalize w1.drew=w2 at *;refine tH 0 bJ ?_;go_frame;refine tH 1 bJ ?_;go_frame;refine tH 2 bJ ?_;go_frame;refine tH 3 bJ ?_;go_frame;refine tH 4 bJ ?_;go_frame;refine oH 5 fun K' hK=>?_;go_simp;refine (V8 K c V.eb w2).mono ?_;rintro e w3 ⟨rfl,hk⟩;have hS3:(fun W:World=>W.cell? ⟨xb,0,yO⟩=yP (yE yH K.nr)∧W.cell? ⟨xb,1,yO⟩=yP (yE yJ K.u0)∧W.cell? ⟨xb,2,yO⟩=yP (yE yJ K.u1)∧W.cell? ⟨xb,3,yO⟩=yP (yE yJ K.u2)∧W.cell? ⟨xb,4,yO⟩=yP (yB (K.p4 c))∧W.cell? ⟨xb,5,yO⟩=yP (yB (K.p5 c))∧W.cell? ⟨V.vb,0,yO⟩=yP (yE yH K.nr)∧W.cell? ⟨V.vb,1,yO⟩=yP (yE yJ K.u0)∧W.cell? ⟨V.vb,2,yO⟩=yP (yE yJ K.u1)∧W.cell? ⟨V.vb,3,yO⟩=yP (yE yJ K.u2)∧W.cell? ⟨V.vb,4,yO⟩=yP (yB (K.p4 V.eb))∧W.cell? ⟨V.vb,5,yO⟩=yP (yB (K.p5 V.eb))) w3:=by
  obtain⟨a0,a1,a2,a3,a4,a5,b0,b1,b2,b3,b4,b5⟩:=bJ.o;exact⟨hk.cell a0,hk.cell a1,hk.cell a2,hk.cell a3,hk.cell a4,hk.cell a5,hk.cell b0,hk.cell b1,hk.cell b2,hk.cell b3,hk.cell b4,hk.cell b5⟩
 have jF:=yN hS3;have aL:=yN (aB aP.o hk);have jR:=yN ((hk.block xb (yo.1 HXd.o).1).trans HXd.o);refine hK _ _ hS3 ?_;clear hK K' hk hS3 bJ aP HXd;refine tH 6 jF ?_;go_frame;refine tH 7 jF ?_;go_frame;refine QC (by kernel_rfl) ?_ _;have a0:=jF.o.1;have a1:=jF.o.2.1;have a2:=jF.o.2.2.1;have a3:=jF.o.2.2.2.1;have a4:=jF.o.2.2.2.2.1;have a5:=jF.o.2.2.2.2.2.1;clear jF;have hown:=RS w3 x;have aA:Kept w3 (w3.alloc (yL #[yE yI x] 35)):=(yk _ w3).alloc (ye _) _;have HO:=yN (yd (dG hown aL.o.size) (aB aL.o aA));clear hown aA;go_wp2_with fail;refine (aEW w3.heap.size 1 c [x] P f name w _ HV.o.1 HO.o.2 hI aL.o.size HO.o.1 HV.o.2.1 HV.o.2.2 hs (by rw [hb];rfl) hn).mono ?_;rintro e w5 ⟨rfl,hv,hsm⟩;have HX:=yN (yd hv hsm);clear hv hsm;go_wp2_with fail;go_ret2;exact⟨rfl,HX.o⟩
end
end Go.Proofs.YtcldomgdkhenpaaGreat
