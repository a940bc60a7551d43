/- Lemmas. -/
import Derived.Test.YtcldomgdkhenpaaGreatJ09
import Derived.Test.YtcldomgdkhenpaaGreatJ20
import Derived.Test.YtcldomgdkhenpaaGreatJ31
set_option linter.unusedVariables false
set_option maxRecDepth 1000000
set_option maxHeartbeats 40000000
open Go.Proofs.Tryz
open Go.Proofs.Tryz renaming prog → yM
open Go.Value renaming string → yA,pointer → yB,slice → yC,bool → yD,int → yE,agg → yF
open Go.IntKind renaming i64 → yH,u32 → yI,u64 → yJ,u8 → yK
open Go.Obj renaming cells → yL
open Option renaming none → yO,some → yP
open Go.Lib renaming hid → yN
open And renaming intro → yd
open Array renaming getElem?_eq_some_iff → yo
open Go.RowKit.Below renaming heap_setCell → yl,refl → yk,trans → yn
open Go.World renaming cell?_of_block → zn
open List renaming length_append → yy,length_take → ze,mem_append → za,mem_map → zj
open Nat renaming le_of_eq → yh,le_refl → ye,le_trans → yf,lt_of_lt_of_le → yi,zero_le → yg
open Go.RowKit
namespace Go.Proofs.YtcldomgdkhenpaaGreat
section
open Sip
attribute [local irreducible] look
def aJH(K:Kn)(w:World)(e:Ending)(w':World):Prop:=∃V sb mb pb,e = .returned (.tuple #[yB (yP ⟨sb,0,yO⟩),yE yH 0])∧StR K V 0 0 (fun _=>[]) (fun _=>none_) (fun _=>yO) sb mb pb w'∧Kept w w'∧∀i,V.S i→w.heap.size≤i
theorem aGM(K:Kn)(k0 k1 mk:UInt64)(hK:K = .champ k0 k1 mk∨K = .radix)(w:World) :
  Calls yM 23 #[yE yH K.nr,yF #[yE yJ (nu k0),yE yJ (nu k1),yE yJ (nu mk)]] w (aJH K w):=by
 obtain⟨aA,aO⟩:=aW w (yL #[yE yJ (nu k0),yE yJ (nu k1),yE yJ (nu mk)] 26);obtain⟨rb,aQ⟩:∃rb,rb=w.heap.size:=⟨_,rfl⟩;have qV:=@run_makeMap yM;go_enter func23,ntmps23;go_upto_region 1 with fail;rw[←aQ] at aO⊢;clear aQ;generalize w.alloc _=w1 at *;have q0:=ch 0 aO;have q1:=ch 1 aO;have q2:=ch 2 aO;have HA:=yN aA;clear aO aA;go_wp2_with fail;refine(aZG K k0 k1 mk hK w1).mono ?_;rintro e w2⟨V,rfl,hv,hk2,hsz⟩;have HV:=yN (yd hv (aB HA.o hk2));have wC:Hid (∀i,V.S i→w.heap.size≤i):=yN fun i hi=>yf HA.o.size (hsz.2 i hi);clear hv hk2 hsz q0 q1 q2;go_wp2_with fail;refine(Tok.a4T 16 w2 (by omega) (by omega)).mono ?_;rintro e w3⟨rfl,hn⟩;have hk3:Kept w2 w3:=hn.1;have cT:=yN (yd (HV.o.1.kept hk3) (aB HV.o.2 hk3));clear hn hk3 HV;go_wp2_with fail;go_ret2;have hm:=aZ w3 (.map #[] 0);have hb:Kept (w3.alloc (.map #[] 0)) ((w3.alloc (.map #[] 0)).alloc (yL #[yB (yP ⟨V.vb,0,yO⟩),.map (yP w3.heap.size),yE yH 0,yB (yP ⟨w2.heap.size+1,0,yO⟩)] 141)):=(yk _ _).alloc (ye _) _;have j5:=(dF w3 (.map #[] 0) (yL #[yB (yP ⟨V.vb,0,yO⟩),.map (yP w3.heap.size),yE yH 0,yB (yP ⟨w2.heap.size+1,0,yO⟩)] 141)).2.1;exact⟨V,w3.heap.size+1,w3.heap.size,w2.heap.size+1,rfl,⟨j5,cT.o.1.kept (aB hm hb)⟩,aB cT.o.2 (aB hm hb),wC.o⟩
end
section
open Sip
attribute [local irreducible] look
variable {K:Kn} {V:VI} {n nb:Nat} {par:Nat→List Nat} {tm:Nat→Mp} {br:Key→Option Nat} {sb mb pb:Nat}
theorem uB.base{ours:Key}{a b aN B B':Nat}{x:iB}{w:World}(h:uB K V n nb par tm br sb mb pb ours a b aN B' x w)(hB:B≤B'):uB K V n nb par tm br sb mb pb ours a b aN B x w:=by
 rcases h with h | h | ⟨h1,h2,m,s,h3,h4,h5,h6,h7,h8,h9,hq⟩
 ·exact .inl h
 ·exact .inr (.inl h)
 exact .inr (.inr ⟨h1,h2,m,s,h3,h4,h5,h6,h7,h8,dG h9 hB,hq⟩)
theorem VP(s1 s2 s3 s4:ByteArray)(i:Nat)(wh:Int)(pa:Option Addr)(pn pc:Nat)(w:World)(h:StR K V n nb par tm br sb mb pb w)(hs:DO s1)(hb:br s1=yO)(hi:i≤n)(aO:nb+1≤2) :
  Calls yM 8 #[yB (yP ⟨sb,0,yO⟩),yF #[yE yH 0,yA s1,yA s2,yA s3,yA s4,yE yI ((i:Nat):Int),yE yI 0,yE yH 0,yE yH wh,yD false,yA ⟨#[]⟩,yA ⟨#[]⟩,yD false,yC pa pn pc,yC yO 0 0]] w (gQ (fun a w'=>a=zI∧StR K V n (nb+1) par tm (fun k=>if k=s1 then yP i else br k) sb mb pb w') V.S w):=
 yY sb 47 0 s1 s2 s3 s4 ((i:Nat):Int) wh pa pn pc (fun a w'=>a=zI∧StR K V n (nb+1) par tm (fun k=>if k=s1 then yP i else br k) sb mb pb w') V.S w (fun _ hi=>h.v.slt hi) (RO _ (fun a=>a=zI) h.lt) (enters_of func47 (by kernel_rfl) rfl) a1Z (fun w1 hk=>aZL 0 s1 s2 s3 s4 i wh pa pn pc w1 (h.kept hk) hs hb hi aO)
theorem XW(x:Nat)(f:Mp)(P:List Nat)(s1 s2 s3 s4:ByteArray)(id wh:Int)(pa:Option Addr)(pn pc:Nat)(w:World)(h:StR K V n nb par tm br sb mb pb w)(hs:s1.size≤100)(hb:br s1=yP x)(hx:uV n tm x f P)(hn:n<100)(hf:aM f 1000)(h1:s3.size≤256)(h2:s4.size≤4096)(hg:aM (upd f s3 (yP s4)) 1000) :
  Calls yM 8 #[yB (yP ⟨sb,0,yO⟩),yF #[yE yH 4,yA s1,yA s2,yA s3,yA s4,yE yI id,yE yI 0,yE yH 0,yE yH wh,yD false,yA ⟨#[]⟩,yA ⟨#[]⟩,yD false,yC pa pn pc,yC yO 0 0]] w (gQ (vD K V n nb par tm br sb mb pb s1 P (upd f s3 (yP s4)) (fun y=>y=0)) V.S w):=
 yY sb 51 4 s1 s2 s3 s4 id wh pa pn pc (vD K V n nb par tm br sb mb pb s1 P (upd f s3 (yP s4)) (fun y=>y=0)) V.S w (fun _ hi=>h.v.slt hi) (JY (K:=K) (n:=n) (nb:=nb) (par:=par) (tm:=tm) (br:=br) (mb:=mb) (pb:=pb) s1 P (upd f s3 (yP s4)) (fun y=>y=0) w.heap.size h.lt) (enters_of func51 (by kernel_rfl) rfl) a13 (fun w1 hk=>a6V x f P 4 s1 s2 s3 s4 id wh pa pn pc w1 (h.kept hk) hs hb hx hn hf h1 h2 hg)
theorem XA(x:Nat)(f:Mp)(P:List Nat)(s1 s2 s3 s4:ByteArray)(id wh:Int)(pa:Option Addr)(pn pc:Nat)(w:World)(h:StR K V n nb par tm br sb mb pb w)(hs:s1.size≤100)(hb:br s1=yP x)(hx:uV n tm x f P)(hn:n<100)(hf:aM f 1000)(h1:s3.size≤256)(hg:aM (upd f s3 yO) 1000) :
  Calls yM 8 #[yB (yP ⟨sb,0,yO⟩),yF #[yE yH 5,yA s1,yA s2,yA s3,yA s4,yE yI id,yE yI 0,yE yH 0,yE yH wh,yD false,yA ⟨#[]⟩,yA ⟨#[]⟩,yD false,yC pa pn pc,yC yO 0 0]] w (gQ (vD K V n nb par tm br sb mb pb s1 P (upd f s3 yO) (fun y=>y=0∨(y=4∧f s3=yO))) V.S w):=
 yY sb 52 5 s1 s2 s3 s4 id wh pa pn pc (vD K V n nb par tm br sb mb pb s1 P (upd f s3 yO) (fun y=>y=0∨(y=4∧f s3=yO))) V.S w (fun _ hi=>h.v.slt hi) (JY (K:=K) (n:=n) (nb:=nb) (par:=par) (tm:=tm) (br:=br) (mb:=mb) (pb:=pb) s1 P (upd f s3 yO) (fun y=>y=0∨(y=4∧f s3=yO)) w.heap.size h.lt) (enters_of func52 (by kernel_rfl) rfl) a14 (fun w1 hk=>a4N x f P 5 s1 s2 s3 s4 id wh pa pn pc w1 (h.kept hk) hs hb hx hn hf h1 hg)
theorem a2C(x:Nat)(f:Mp)(P:List Nat)(l:List Pr)(s1 s2 s3 s4:ByteArray)(id wh:Int)(pa:Option Addr)(pn pc:Nat)(w:World)(h:StR K V n nb par tm br sb mb pb w)(hs:s1.size≤100)(hb:br s1=yP x)(hx:uV n tm x f P)(hn:n<100)(hf:aM f 1000)(hl:l.length<20)(hz0:∀p∈l,p.1.size≤256∧p.2.size≤4096)(hr:Rd w (yC pa pn pc) l.length (aK l))(hg:∀g,(fun g=>∃s,iI l s∧g=look s) g→aM g 1000) :
  Calls yM 8 #[yB (yP ⟨sb,0,yO⟩),yF #[yE yH 6,yA s1,yA s2,yA s3,yA s4,yE yI id,yE yI 0,yE yH 0,yE yH wh,yD false,yA ⟨#[]⟩,yA ⟨#[]⟩,yD false,yC pa pn pc,yC yO 0 0]] w (gQ (BM K V n nb par tm br sb mb pb s1 P (fun g=>∃s,iI l s∧g=look s) (fun y=>y=0)) V.S w):=
 yY sb 53 6 s1 s2 s3 s4 id wh pa pn pc (BM K V n nb par tm br sb mb pb s1 P (fun g=>∃s,iI l s∧g=look s) (fun y=>y=0)) V.S w (fun _ hi=>h.v.slt hi) (U9 (K:=K) (n:=n) (nb:=nb) (par:=par) (tm:=tm) (br:=br) (mb:=mb) (pb:=pb) s1 P (fun g=>∃s,iI l s∧g=look s) (fun y=>y=0) w.heap.size h.lt) (enters_of func53 (by kernel_rfl) rfl) a15 (fun w1 hk=>a4O x f P l 6 s1 s2 s3 s4 id wh pa pn pc w1 (h.kept hk) hs hb hx hn hf hl hz0 (hr.kept hk) hg)
theorem aJI(s1 s2 s3 s4:ByteArray)(i:Nat)(wh:Int)(pa:Option Addr)(pn pc:Nat)(w:World)(h:StR K V n nb par tm br sb mb pb w)(hi:1≤i∧i≤n)(hs3:s3.size≤1000)(hf:aM (tm i) 1000) :
  Calls yM 8 #[yB (yP ⟨sb,0,yO⟩),yF #[yE yH 10,yA s1,yA s2,yA s3,yA s4,yE yI ((i:Nat):Int),yE yI 0,yE yH 0,yE yH wh,yD false,yA ⟨#[]⟩,yA ⟨#[]⟩,yD false,yC pa pn pc,yC yO 0 0]] w (gQ (D7 (tm i) s3 (fun w'=>StR K V n nb par tm br sb mb pb w')) (fun _=>False) w):=
 yY sb 57 10 s1 s2 s3 s4 ((i:Nat):Int) wh pa pn pc (D7 (tm i) s3 (fun w'=>StR K V n nb par tm br sb mb pb w')) (fun _=>False) w (fun _ hi=>hi.elim) (aHY (K:=K) (n:=n) (nb:=nb) (par:=par) (tm:=tm) (br:=br) (mb:=mb) (pb:=pb) (tm i) s3 w.heap.size h.lt) (enters_of func57 (by kernel_rfl) rfl) aZH (fun w1 hk=>a6T 10 s1 s2 s3 s4 i wh pa pn pc w1 (h.kept hk) hi hs3 hf)
theorem aR4(s1 s2 s3 s4:ByteArray)(id wh:Int)(pa:Option Addr)(pn pc:Nat)(w:World)(h:StR K V n nb par tm br sb mb pb w) :
  Calls yM 8 #[yB (yP ⟨sb,0,yO⟩),yF #[yE yH 25,yA s1,yA s2,yA s3,yA s4,yE yI id,yE yI 0,yE yH 0,yE yH wh,yD false,yA ⟨#[]⟩,yA ⟨#[]⟩,yD false,yC pa pn pc,yC yO 0 0]] w (gQ (QP K V n nb par tm br sb mb pb) V.S w):=
 yY sb 72 25 s1 s2 s3 s4 id wh pa pn pc (QP K V n nb par tm br sb mb pb) V.S w (fun _ hi=>h.v.slt hi) (RO (K:=K) (n:=n) (nb:=nb) (par:=par) (tm:=tm) (br:=br) (mb:=mb) (pb:=pb) w.heap.size (fun a:iB=>((n:Int)≤a.n∧a.n≤100)) h.lt) (enters_of func72 (by kernel_rfl) rfl) aZK (fun w1 hk=>aTY 25 s1 s2 s3 s4 id wh pa pn pc w1 (h.kept hk))
theorem aZP(s1 s2 s3 s4:ByteArray)(id wh:Int)(pa:Option Addr)(pn pc:Nat)(w:World)(h:StR K V n nb par tm br sb mb pb w)(hlen:∀l:List Nm,(l.map (·.1)).Nodup→(∀x∈l,br x.1=yP x.2)→l.length≤1000) :
  Calls yM 8 #[yB (yP ⟨sb,0,yO⟩),yF #[yE yH 23,yA s1,yA s2,yA s3,yA s4,yE yI id,yE yI 0,yE yH 0,yE yH wh,yD false,yA ⟨#[]⟩,yA ⟨#[]⟩,yD false,yC pa pn pc,yC yO 0 0]] w (gQ (LB K V n nb par tm br sb mb pb w.heap.size) V.S w):=
 yY sb 70 23 s1 s2 s3 s4 id wh pa pn pc (LB K V n nb par tm br sb mb pb w.heap.size) V.S w (fun _ hi=>h.v.slt hi) (aFM (K:=K) (n:=n) (nb:=nb) (par:=par) (tm:=tm) (br:=br) (mb:=mb) (pb:=pb) w.heap.size h.lt) (enters_of func70 (by kernel_rfl) rfl) aZJ (fun w1 hk=>(a18 23 s1 s2 s3 s4 id wh pa pn pc w1 (h.kept hk) hlen).mono fun e w' ⟨a,he,⟨⟨l,q1,q2,q3,q4⟩,q5⟩,q6⟩=>⟨a,he,⟨⟨l,q1,q2,q3,dG q4 hk.size⟩,q5⟩,q6⟩)
theorem a2D(s1 s2 s3 s4:ByteArray)(i:Nat)(wh:Int)(pa:Option Addr)(pn pc:Nat)(w:World)(h:StR K V n nb par tm br sb mb pb w)(hi:1≤i∧i≤n)(hf:aM (tm i) 39) :
  Calls yM 8 #[yB (yP ⟨sb,0,yO⟩),yF #[yE yH 11,yA s1,yA s2,yA s3,yA s4,yE yI ((i:Nat):Int),yE yI 0,yE yH 0,yE yH wh,yD false,yA ⟨#[]⟩,yA ⟨#[]⟩,yD false,yC pa pn pc,yC yO 0 0]] w (gQ (DU w.heap.size (tm i) (fun w'=>StR K V n nb par tm br sb mb pb w')) (fun _=>False) w):=
 yY sb 58 11 s1 s2 s3 s4 ((i:Nat):Int) wh pa pn pc (DU w.heap.size (tm i) (fun w'=>StR K V n nb par tm br sb mb pb w')) (fun _=>False) w (fun _ hi=>hi.elim) (aGK (K:=K) (n:=n) (nb:=nb) (par:=par) (tm:=tm) (br:=br) (mb:=mb) (pb:=pb) (tm i) w.heap.size h.lt) (enters_of func58 (by kernel_rfl) rfl) aZI (fun w1 hk=>(a4M 11 s1 s2 s3 s4 i wh pa pn pc w1 (h.kept hk) hi hf).mono fun e w' ⟨a,he,⟨⟨l,q1,q2,q3,q4⟩,q5⟩,q6⟩=>⟨a,he,⟨⟨l,q1,q2,q3,dG q4 hk.size⟩,q5⟩,q6⟩)
theorem aZQ(a b aN:Nat)(s1 s2 s3 s4:ByteArray)(id:Int)(pa:Option Addr)(pn pc:Nat)(w:World)(h:StR K V n nb par tm br sb mb pb w)(hs1:s1.size≤100)(hs2:s2.size≤100)(ha:br s1=yP a)(hb:br s2=yP b)(hp:aN<4)(hn:n<100)(ha1:1≤a∧a≤n)(hb1:1≤b∧b≤n)(hF:∀i,1≤i→i≤n→aM (tm i) 39)(hG:∀m,aM (fun k=>(cO (tm m k) (tm a k) (tm b k) aN).1) 1000)(hm:∃i,bV par n a i∧bV par n b i) :
  Calls yM 8 #[yB (yP ⟨sb,0,yO⟩),yF #[yE yH 8,yA s1,yA s2,yA s3,yA s4,yE yI id,yE yI 0,yE yH 0,yE yH ((aN:Nat):Int),yD false,yA ⟨#[]⟩,yA ⟨#[]⟩,yD false,yC pa pn pc,yC yO 0 0]] w (gQ (uB K V n nb par tm br sb mb pb s1 a b aN w.heap.size) V.S w):=
 yY sb 55 8 s1 s2 s3 s4 id ((aN:Nat):Int) pa pn pc (uB K V n nb par tm br sb mb pb s1 a b aN w.heap.size) V.S w (fun _ hi=>h.v.slt hi) (aHX (K:=K) (n:=n) (nb:=nb) (par:=par) (tm:=tm) (br:=br) (mb:=mb) (pb:=pb) s1 a b aN w.heap.size h.lt) (enters_of func55 (by kernel_rfl) rfl) a16 (fun w1 hk=>(a2A a b aN 8 s1 s2 s3 s4 id pa pn pc w1 (h.kept hk) hs1 hs2 ha hb hp hn ha1 hb1 hF hG hm).mono fun e w' ⟨x,he,q1,q2⟩=>⟨x,he,q1.base hk.size,q2⟩)
end
section
open Sip
attribute [local irreducible] look
variable {s:List Pr} {f:Mp}
variable {K:Kn} {V:VI} {n nb:Nat} {par:Nat→List Nat} {tm:Nat→Mp} {br:Key→Option Nat} {sb mb pb:Nat}
def DV(R:World→Prop)(S:Nat→Prop)(w0:World)(e:Ending)(w':World):Prop:=∃v,e = .returned v∧R w'∧Sm S w0 w'
def LI(K:Kn)(V:VI)(sb mb pb N ca cb:Nat)(w:World):Prop:=∃n a b par tm A,LS n a b par tm A∧n≤N∧aM (tm a) ca∧aM (tm b) cb∧StR K V n 2 par tm (iL a b) sb mb pb w
def tL(i:Nat)(k:Key):Option Nat:=if k=mH then yP i else yO
theorem aGP:DO mH:=⟨by decide,by decide,by decide⟩
theorem aW0:DO nU:=⟨by decide,by decide,by decide⟩
theorem aZY(i j:Nat):(fun k=>if k=mH then yP j else tL i k)=tL j:=by funext k;unfold tL;split <;> rfl
theorem aZZ(i j:Nat):(fun k=>if k=nU then yP j else tL i k)=iL i j:=by
 funext k;unfold tL iL;by_cases h:k=mH;·subst h;simp[Ne.symm GD]
 simp[h]
theorem a62(i:Nat):tL i mH=yP i:=by unfold tL;rw[if_pos rfl]
theorem a63(i:Nat):tL i nU=yO:=by unfold tL;rw[if_neg GD]
theorem a2K{l:List Pr}(h:iI l s)(hz:∀p∈l,p.1.size≤256∧p.2.size≤4096):aM (look s) l.length:=by
 have hl:=tP h.rise;refine⟨s.map Prod.fst,by rw[List.length_map];exact aIQ h,fun k v hv=>?_⟩;have hm:=(hl.2 k v).1 hv;have:=hz _ (h.sub _ hm);exact⟨zj.2 ⟨_,hm,rfl⟩,this⟩
theorem aT6(w:World)(h:StR K V 0 0 (fun _=>[]) (fun _=>none_) (fun _=>yO) sb mb pb w) :
  Calls yM 8 #[yB (yP ⟨sb,0,yO⟩),yF #[yE yH 0,yA ⟨#[109,97,105,110]⟩,yA ⟨#[]⟩,yA ⟨#[]⟩,yA ⟨#[]⟩,yE yI 0,yE yI 0,yE yH 0,yE yH 0,yD false,yA ⟨#[]⟩,yA ⟨#[]⟩,yD false,yC yO 0 0,yC yO 0 0]] w (DV (fun w'=>StR K V 0 1 (fun _=>[]) (fun _=>none_) (tL 0) sb mb pb w') V.S w):=
 (VP ⟨#[109,97,105,110]⟩ ⟨#[]⟩ ⟨#[]⟩ ⟨#[]⟩ 0 0 yO 0 0 w h aGP rfl (ye 0) (by omega)).mono fun e w' ⟨a,he,⟨_,hs⟩,hm⟩=>⟨_,he,hs,hm⟩
theorem aZ0(l:List Pr)(pa:Option Addr)(pn pc:Nat)(w:World)(h:StR K V 0 1 (fun _=>[]) (fun _=>none_) (tL 0) sb mb pb w)(hl:l.length≤14)(hz:∀p∈l,p.1.size≤256∧p.2.size≤4096)(hr:Rd w (yC pa pn pc) l.length (aK l)) :
  Calls yM 8 #[yB (yP ⟨sb,0,yO⟩),yF #[yE yH 6,yA ⟨#[109,97,105,110]⟩,yA ⟨#[]⟩,yA ⟨#[]⟩,yA ⟨#[]⟩,yE yI 0,yE yI 0,yE yH 0,yE yH 0,yD false,yA ⟨#[]⟩,yA ⟨#[]⟩,yD false,yC pa pn pc,yC yO 0 0]] w (DV (fun w'=>∃par tm,par 1=[]∧(∀i,aM (tm i) 14)∧StR K V 1 1 par tm (tL 1) sb mb pb w') V.S w):=by
 have hg:∀g,(fun g=>∃s,iI l s∧g=look s) g→aM g 14:=fun g ⟨s,hs,e⟩=>by rw[e];exact(a2K hs hz).mono hl
 refine(a2C 0 none_ [] l ⟨#[109,97,105,110]⟩ ⟨#[]⟩ ⟨#[]⟩ ⟨#[]⟩ 0 0 pa pn pc w h (by decide) (a62 0) (.inl ⟨rfl,rfl,rfl⟩) (by omega) (J1.mono (by omega)) (by omega) hz hr (fun g h=>(hg g h).mono (by omega))).mono ?_;rintro e w'⟨a,he,⟨g,hG,hP⟩,hm⟩;rcases hP with⟨_,_,_,hs⟩ | ⟨h1,h2,_⟩
 ·refine⟨_,he,⟨_,_,?_,fun i=>?_,by rw[←aZY 0 1];exact hs⟩,hm⟩;·rfl
  show aM (if i=0+1 then g else none_) 14
  split
  ·exact hg g hG
  exact J1.mono (by omega)
 exact absurd h2 h1
theorem aZ1(w:World)(h:∃par tm,par 1=[]∧(∀i,aM (tm i) 14)∧StR K V 1 1 par tm (tL 1) sb mb pb w) :
  Calls yM 8 #[yB (yP ⟨sb,0,yO⟩),yF #[yE yH 0,yA ⟨#[115,105,100,101]⟩,yA ⟨#[]⟩,yA ⟨#[]⟩,yA ⟨#[]⟩,yE yI 1,yE yI 0,yE yH 0,yE yH 0,yD false,yA ⟨#[]⟩,yA ⟨#[]⟩,yD false,yC yO 0 0,yC yO 0 0]] w (DV (LI K V sb mb pb 1 14 14) V.S w):=by
 obtain⟨par,tm,hp,hf,hs⟩:=h;refine(VP ⟨#[115,105,100,101]⟩ ⟨#[]⟩ ⟨#[]⟩ ⟨#[]⟩ 1 0 yO 0 0 w hs aW0 (a63 1) (ye 1) (by omega)).mono ?_;rintro e w'⟨a,he,⟨_,hs⟩,hm⟩;exact⟨_,he,⟨1,1,1,par,tm,_,LS.first hp (fun i=>(hf i).mono (by omega)),ye _,hf 1,hf 1,by rw[←aZZ 1 1];exact hs⟩,hm⟩
theorem aQ0(N ca cb:Nat)(key val:Key)(w:World)(h:LI K V sb mb pb N ca cb w)(hN:N<100)(hc:ca+1≤28)(hk:key.size≤256)(hv:val.size≤4096) :
  Calls yM 8 #[yB (yP ⟨sb,0,yO⟩),yF #[yE yH 4,yA ⟨#[109,97,105,110]⟩,yA ⟨#[]⟩,yA key,yA val,yE yI 0,yE yI 0,yE yH 0,yE yH 0,yD false,yA ⟨#[]⟩,yA ⟨#[]⟩,yD false,yC yO 0 0,yC yO 0 0]] w (DV (LI K V sb mb pb (N+1) (ca+1) (cb)) V.S w):=by
 obtain⟨n,a,b,par,tm,A,bU,hn,pY,jO,hs⟩:=h;refine(XW a (tm a) [a] ⟨#[109,97,105,110]⟩ ⟨#[]⟩ key val 0 0 yO 0 0 w hs (by decide) (XX a b) (.inr ⟨bU.a1,rfl,rfl⟩) (by omega) ((bU.few a).mono (by omega)) hk hv (((pY.on key val hk hv).mono hc).mono (by omega))).mono ?_;rintro e w'⟨v,he,hP,hm⟩;rcases hP with⟨_,_,_,hs⟩ | ⟨h1,h2,_⟩
 ·exact⟨_,he,⟨n+1,n+1,b,_,_,_,bU.main ((pY.on key val hk hv).mono hc),by omega,by show aM (if n+1=n+1 then upd (tm a) key (yP val) else tm (n+1)) _;rw[if_pos rfl];exact pY.on key val hk hv,by show aM (if b=n+1 then upd (tm a) key (yP val) else tm b) _;rw[if_neg (by have:=bU.b1.2;omega)];exact jO,by rw[←QQ a b (n+1)];exact hs⟩,hm⟩
 exact absurd h2 h1
theorem aEH(N ca cb:Nat)(key:Key)(w:World)(h:LI K V sb mb pb N ca cb w)(hN:N<100)(hk:key.size≤256) :
  Calls yM 8 #[yB (yP ⟨sb,0,yO⟩),yF #[yE yH 5,yA ⟨#[109,97,105,110]⟩,yA ⟨#[]⟩,yA key,yA ⟨#[]⟩,yE yI 0,yE yI 0,yE yH 0,yE yH 0,yD false,yA ⟨#[]⟩,yA ⟨#[]⟩,yD false,yC yO 0 0,yC yO 0 0]] w (DV (LI K V sb mb pb (N+1) ca cb) V.S w):=by
 obtain⟨n,a,b,par,tm,A,bU,hn,pY,jO,hs⟩:=h;refine(XA a (tm a) [a] ⟨#[109,97,105,110]⟩ ⟨#[]⟩ key ⟨#[]⟩ 0 0 yO 0 0 w hs (by decide) (XX a b) (.inr ⟨bU.a1,rfl,rfl⟩) (by omega) ((bU.few a).mono (by omega)) hk (((bU.few a).off key).mono (by omega))).mono ?_;rintro e w'⟨v,he,hP,hm⟩;rcases hP with⟨_,_,_,hs⟩ | ⟨h1,h2,hs⟩
 ·exact⟨_,he,⟨n+1,n+1,b,_,_,_,bU.main ((bU.few a).off key),by omega,by show aM (if n+1=n+1 then upd (tm a) key yO else tm (n+1)) _;rw[if_pos rfl];exact pY.off key,by show aM (if b=n+1 then upd (tm a) key yO else tm b) _;rw[if_neg (by have:=bU.b1.2;omega)];exact jO,by rw[←QQ a b (n+1)];exact hs⟩,hm⟩
 exact⟨_,he,⟨n,a,b,par,tm,A,bU,by omega,pY,jO,hs⟩,hm⟩
theorem aQ1(N ca cb:Nat)(key val:Key)(w:World)(h:LI K V sb mb pb N ca cb w)(hN:N<100)(hc:cb+1≤28)(hk:key.size≤256)(hv:val.size≤4096) :
  Calls yM 8 #[yB (yP ⟨sb,0,yO⟩),yF #[yE yH 4,yA ⟨#[115,105,100,101]⟩,yA ⟨#[]⟩,yA key,yA val,yE yI 0,yE yI 0,yE yH 0,yE yH 0,yD false,yA ⟨#[]⟩,yA ⟨#[]⟩,yD false,yC yO 0 0,yC yO 0 0]] w (DV (LI K V sb mb pb (N+1) (ca) (cb+1)) V.S w):=by
 obtain⟨n,a,b,par,tm,A,bU,hn,pY,jO,hs⟩:=h;refine(XW b (tm b) [b] ⟨#[115,105,100,101]⟩ ⟨#[]⟩ key val 0 0 yO 0 0 w hs (by decide) (XY a b) (.inr ⟨bU.b1,rfl,rfl⟩) (by omega) ((bU.few b).mono (by omega)) hk hv (((jO.on key val hk hv).mono hc).mono (by omega))).mono ?_;rintro e w'⟨v,he,hP,hm⟩;rcases hP with⟨_,_,_,hs⟩ | ⟨h1,h2,_⟩
 ·exact⟨_,he,⟨n+1,a,n+1,_,_,_,bU.side ((jO.on key val hk hv).mono hc),by omega,by show aM (if a=n+1 then upd (tm b) key (yP val) else tm a) _;rw[if_neg (by have:=bU.a1.2;omega)];exact pY,by show aM (if n+1=n+1 then upd (tm b) key (yP val) else tm (n+1)) _;rw[if_pos rfl];exact jO.on key val hk hv,by rw[←aGO a b (n+1)];exact hs⟩,hm⟩
 exact absurd h2 h1
theorem aEI(N ca cb:Nat)(key:Key)(w:World)(h:LI K V sb mb pb N ca cb w)(hN:N<100)(hk:key.size≤256) :
  Calls yM 8 #[yB (yP ⟨sb,0,yO⟩),yF #[yE yH 5,yA ⟨#[115,105,100,101]⟩,yA ⟨#[]⟩,yA key,yA ⟨#[]⟩,yE yI 0,yE yI 0,yE yH 0,yE yH 0,yD false,yA ⟨#[]⟩,yA ⟨#[]⟩,yD false,yC yO 0 0,yC yO 0 0]] w (DV (LI K V sb mb pb (N+1) ca cb) V.S w):=by
 obtain⟨n,a,b,par,tm,A,bU,hn,pY,jO,hs⟩:=h;refine(XA b (tm b) [b] ⟨#[115,105,100,101]⟩ ⟨#[]⟩ key ⟨#[]⟩ 0 0 yO 0 0 w hs (by decide) (XY a b) (.inr ⟨bU.b1,rfl,rfl⟩) (by omega) ((bU.few b).mono (by omega)) hk (((bU.few b).off key).mono (by omega))).mono ?_;rintro e w'⟨v,he,hP,hm⟩;rcases hP with⟨_,_,_,hs⟩ | ⟨h1,h2,hs⟩
 ·exact⟨_,he,⟨n+1,a,n+1,_,_,_,bU.side ((bU.few b).off key),by omega,by show aM (if a=n+1 then upd (tm b) key yO else tm a) _;rw[if_neg (by have:=bU.a1.2;omega)];exact pY,by show aM (if n+1=n+1 then upd (tm b) key yO else tm (n+1)) _;rw[if_pos rfl];exact jO.off key,by rw[←aGO a b (n+1)];exact hs⟩,hm⟩
 exact⟨_,he,⟨n,a,b,par,tm,A,bU,by omega,pY,jO,hs⟩,hm⟩
def a4W(a b:Nat)(R:World→Prop)(S:Nat→Prop)(w0:World)(e:Ending)(w':World):Prop:=∃(x:iB) (g:Nat),e = .returned (yF #[yE yH x.e,yE yI x.i,yE yH 0,yA x.v,yD x.b,yE yH x.n,yC x.pa x.pn x.pc,yC yO 0 0,yC x.fa x.fn x.fc,yC x.ia x.il x.ic,yC (yP ⟨g,0,yO⟩) 2 x.nc])∧(2≤x.nc∧x.nc≤maxLen∧w'.cell? ⟨g,1,yO⟩=yP (yE yI (a:Nat))∧w'.cell? ⟨g,3,yO⟩=yP (yE yI (b:Nat)))∧R w'∧Sm S w0 w'
theorem aGQ(a b:Nat)(w:World)(h:StR K V n nb par tm (iL a b) sb mb pb w) :
  Calls yM 8 #[yB (yP ⟨sb,0,yO⟩),yF #[yE yH 23,yA ⟨#[]⟩,yA ⟨#[]⟩,yA ⟨#[]⟩,yA ⟨#[]⟩,yE yI 0,yE yI 0,yE yH 0,yE yH 0,yD false,yA ⟨#[]⟩,yA ⟨#[]⟩,yD false,yC yO 0 0,yC yO 0 0]] w (a4W a b (fun w'=>StR K V n nb par tm (iL a b) sb mb pb w') V.S w):=by
 have hlen:∀l:List Nm,(l.map (·.1)).Nodup→(∀x∈l,iL a b x.1=yP x.2)→l.length≤1000:=fun l hd hm=>by
  have:=C2 (l.map (·.1)) [mH,nU] hd (fun k hk=>by
   obtain⟨x,hx,rfl⟩:=zj.1 hk
   rcases(aH0 a b x.1 x.2).1 (hm x hx) with⟨h1,_⟩ | ⟨h1,_⟩ <;> simp[h1])
  rw[List.length_map] at this;exact yf this (by decide)
 refine(aZP ⟨#[]⟩ ⟨#[]⟩ ⟨#[]⟩ ⟨#[]⟩ 0 0 yO 0 0 w h hlen).mono ?_;rintro e w'⟨x,he,⟨⟨l,h1,h2,h3,h4⟩,hs⟩,hm⟩;have hl:=aWZ rfl h1.1 h1.2;subst hl;rcases h4.2 with⟨e1,e2⟩ | ⟨g,cap,cur,e1,_,_,h5,h6,_⟩
 ·cases e2
 have c1:=h4.cells (g:=g) (by rw[e1];rfl) 1 _ rfl;have c3:=h4.cells (g:=g) (by rw[e1];rfl) 3 _ rfl;rw[Addr.add_lit,Nat.zero_add] at c1 c3;injection e1 with f1 f2 f3
 exact⟨x,g,by rw[he,f1,f2];rfl,⟨by rw[f3];exact h5,by rw[f3];exact h6,c1,c3⟩,hs,hm⟩
theorem aZ2(i:Nat)(w:World)(h:StR K V n nb par tm br sb mb pb w)(hi:1≤i∧i≤n)(hf:aM (tm i) 39) :
  Calls yM 8 #[yB (yP ⟨sb,0,yO⟩),yF #[yE yH 11,yA ⟨#[]⟩,yA ⟨#[]⟩,yA ⟨#[]⟩,yA ⟨#[]⟩,yE yI ((i:Nat):Int),yE yI 0,yE yH 0,yE yH 0,yD false,yA ⟨#[]⟩,yA ⟨#[]⟩,yD false,yC yO 0 0,yC yO 0 0]] w fun e w'=>∃(x:iB) (s:List Pr) (pa:Option Addr) (pc:Nat),e = .returned (yF #[yE yH x.e,yE yI x.i,yE yH 0,yA x.v,yD x.b,yE yH x.n,yC pa s.length pc,yC yO 0 0,yC x.fa x.fn x.fc,yC x.ia x.il x.ic,yC x.na x.nn x.nc])∧eK s (tm i)∧Rd w' (yC pa s.length pc) s.length (aK s)∧Kept w w':=by
 refine(a2D ⟨#[]⟩ ⟨#[]⟩ ⟨#[]⟩ ⟨#[]⟩ i 0 yO 0 0 w h hi hf).mono ?_;rintro e w'⟨x,he,⟨⟨s,h1,h2,h3,h4⟩,hs⟩,hm⟩;rw[h3] at he h4;exact⟨x,s,x.pa,x.pc,he,h1,dH h4,hm.below (fun i hi=>hi.elim) (ye _)⟩
theorem aQ2(w:World)(h:StR K V n nb par tm br sb mb pb w) :
  Calls yM 8 #[yB (yP ⟨sb,0,yO⟩),yF #[yE yH 25,yA ⟨#[]⟩,yA ⟨#[]⟩,yA ⟨#[]⟩,yA ⟨#[]⟩,yE yI 0,yE yI 0,yE yH 0,yE yH 0,yD false,yA ⟨#[]⟩,yA ⟨#[]⟩,yD false,yC yO 0 0,yC yO 0 0]] w fun e w'=>∃x:iB,e = .returned (yF #[yE yH x.e,yE yI x.i,yE yH 0,yA x.v,yD x.b,yE yH x.n,yC x.pa x.pn x.pc,yC yO 0 0,yC x.fa x.fn x.fc,yC x.ia x.il x.ic,yC x.na x.nn x.nc])∧((n:Int)≤x.n∧x.n≤100)∧StR K V n nb par tm br sb mb pb w'∧Sm V.S w w':=by
 refine(aR4 ⟨#[]⟩ ⟨#[]⟩ ⟨#[]⟩ ⟨#[]⟩ 0 0 yO 0 0 w h).mono ?_;rintro e w'⟨x,he,⟨h1,hs⟩,hm⟩;exact⟨x,he,h1,hs,hm⟩
theorem aT7(h:eK s f)(k:Key):k∈s.map Prod.fst↔f k≠yO:=by
 rw[zj];constructor
 ·rintro⟨p,hp,rfl⟩;rw[(h.2 p.1 p.2).2 hp];simp
 intro hk;cases e:f k with
 | none=>exact absurd e hk
 | some v=>exact⟨(k,v),(h.2 k v).1 e,rfl⟩
theorem aW1{m:Nat}(h:eK s f)(hf:aM f m):s.length≤m∧∀p∈s,p.1.size≤256:=by
 obtain⟨ks,h1,h2⟩:=hf;refine⟨?_,fun p hp=>(h2 p.1 p.2 ((h.2 p.1 p.2).2 hp)).2.1⟩
 have:=C2 (s.map Prod.fst) ks (by rw[List.Nodup,List.pairwise_map];exact h.1.imp fun hh=>oX hh) (fun k hk=>by
  obtain⟨p,hp,rfl⟩:=zj.1 hk;exact(h2 p.1 p.2 ((h.2 p.1 p.2).2 hp)).1)
 rw[List.length_map] at this;exact yf this h1
def a9Y(K:Kn)(V:VI)(n:Nat)(tm:Nat→Mp)(a b aN sb mb pb:Nat)(w0:World)(e:Ending)(w':World):Prop:=
 ∃(x:iB) (L:List Cf) (n' h:Nat) (par':Nat→List Nat) (fQ:Nat→Mp),e = .returned (yF #[yE yH x.e,yE yI x.i,yE yH 0,yA x.v,yD x.b,yE yH x.n,yC x.pa x.pn x.pc,yC yO 0 0,yC x.fa x.fn x.fc,yC x.ia x.il x.ic,yC x.na x.nn x.nc])∧JK (tm 1) (tm a) (tm b) aN (L.map Cf.key)∧x.fn=L.length∧(L=[]∨w'.ownsRow w0.heap.size 73 7 (yC x.fa x.fn x.fc) L.length (mV L))∧
  StR K V n' 2 par' fQ (iL h b) sb mb pb w'∧n≤n'∧(∀i,1≤i→i≤n→fQ i=tm i)∧1≤h∧h≤n'∧Sm V.S w0 w'∧
  ((x.e=8∧aN=0∧0<L.length∧h=a)∨(x.e=0∧x.i=(h:Nat)∧(aN=0→L=[])∧aM (fQ h) 1000∧∀k,fQ h k=(cO (tm 1 k) (tm a k) (tm b k) aN).1))
theorem aW2(a b aN:Nat)(A:Nat→Prop)(w:World)(bU:LS n a b par tm A)(hn:n<100)(hp:aN<4)(h:StR K V n 2 par tm (iL a b) sb mb pb w) :
  Calls yM 8 #[yB (yP ⟨sb,0,yO⟩),yF #[yE yH 8,yA ⟨#[109,97,105,110]⟩,yA ⟨#[115,105,100,101]⟩,yA ⟨#[]⟩,yA ⟨#[]⟩,yE yI 0,yE yI 0,yE yH 0,yE yH ((aN:Nat):Int),yD false,yA ⟨#[]⟩,yA ⟨#[]⟩,yD false,yC yO 0 0,yC yO 0 0]] w (a9Y K V n tm a b aN sb mb pb w):=by
 refine(aZQ a b aN ⟨#[109,97,105,110]⟩ ⟨#[115,105,100,101]⟩ ⟨#[]⟩ ⟨#[]⟩ 0 yO 0 0 w h (by decide) (by decide) (XX a b) (XY a b) hp hn bU.a1 bU.b1 (fun i _ _=>(bU.few i).mono (by omega)) (fun m=>aH1 (bU.few m) (bU.few a) (bU.few b) aN) ⟨1,bU.top a bU.a1.1 bU.a1.2,bU.top b bU.b1.1 bU.b1.2⟩).mono ?_;rintro e w'⟨x,he,hq,hm⟩;rcases hq with⟨h1,h2,h3,h4,h5⟩ | ⟨h1,h2,h3,h4,h5,h6⟩ | ⟨h1,h2,m,s,h3,h4,h5,h6,h7,h8,h9,hq⟩
 ·have hb:=bU.ab h1;subst hb;refine⟨x,[],n,a,par,tm,he,aT5 _ _ _,h4,.inl rfl,h5,ye _,fun _ _ _=>rfl,bU.a1.1,bU.a1.2,hm,.inr ⟨h2,h3,fun _=>rfl,(bU.few a).mono (by omega),fun k=>?_⟩⟩;rw[aFJ]
 ·have ha:=bU.ba h2;subst ha;rw[show (fun k=>if k=(⟨#[109,97,105,110]⟩:Key) then yP b else iL 1 b k)=iL b b from QQ 1 b b] at h6;refine⟨x,[],n,b,par,tm,he,aZS _ _ _,h5,.inl rfl,h6,ye _,fun _ _ _=>rfl,bU.b1.1,bU.b1.2,hm,.inr ⟨h3,h4,fun _=>rfl,(bU.few b).mono (by omega),fun k=>?_⟩⟩;rw[aD6]
 have jQ:=bU.meet h3 h4;subst jQ;have hc:JK (tm 1) (tm a) (tm b) aN ((bY (tm a) aN s).map Cf.key):=aWV aN h6 h7;rcases hq with⟨q1,q2,q3,q4,q5⟩ | ⟨q1,q2,q3,q4⟩
 ·exact⟨x,bY (tm a) aN s,n,a,par,tm,he,hc,h8,.inr h9,q5,ye _,fun _ _ _=>rfl,bU.a1.1,bU.a1.2,hm,.inl ⟨q3,q1,q2,rfl⟩⟩
 rw[show (fun k=>if k=(⟨#[109,97,105,110]⟩:Key) then yP (n+1) else iL a b k)=iL (n+1) b from QQ a b (n+1)] at q4;refine⟨x,bY (tm a) aN s,n+1,n+1,_,_,he,hc,h8,.inr h9,q4,by omega,fun i h1 h2=>?_,by omega,ye _,hm,.inr ⟨q2,by rw[q3];simp,fun iW=>?_,?_,fun k=>?_⟩⟩;·show (if i=n+1 then _ else _)=_;rw[if_neg (by omega)]
 ·rcases List.eq_nil_or_concat (bY (tm a) aN s) with e0 | ⟨_,_,e0⟩
  ·exact e0
  exact absurd ⟨iW,by rw[e0];simp⟩ q1
 ·show aM (if n+1=n+1 then _ else _) 1000;rw[if_pos rfl];exact aH1 (bU.few 1) (bU.few a) (bU.few b) aN
 simp
theorem a9Z(a0 a1 a2 a3 a4 a5 a6 a7 a8 a9 jV:Value)(w:World):(Instr.field 41 (yF #[a0,a1,a2,a3,a4,a5,a6,a7,a8,a9,jV]) 0).run yM w = .ok a0 w:=by kernel_rfl
theorem a90(a0 a1 a2 a3 a4 a5 a6 a7 a8 a9 jV:Value)(w:World):(Instr.field 41 (yF #[a0,a1,a2,a3,a4,a5,a6,a7,a8,a9,jV]) 5).run yM w = .ok a5 w:=by kernel_rfl
theorem a92(a0 a1 a2 a3 a4 a5 a6 a7 a8 a9 jV:Value)(w:World):(Instr.field 41 (yF #[a0,a1,a2,a3,a4,a5,a6,a7,a8,a9,jV]) 6).run yM w = .ok a6 w:=by kernel_rfl
theorem a65(a0 a1 a2 a3 a4 a5 a6 a7 a8 a9 jV:Value)(w:World):(Instr.field 41 (yF #[a0,a1,a2,a3,a4,a5,a6,a7,a8,a9,jV]) 10).run yM w = .ok jV w:=by kernel_rfl
end
section
open Sip
attribute [local irreducible] look
attribute [local go_sem] a9Z
def a4X(w:World)(e:Ending)(w':World):Prop:=e = .returned (yD true)∧Kept w w'
theorem a4Y(w:World):Calls yM 23 #[yE yH 0,yF #[yE yJ 0,yE yJ 0,yE yJ 0]] w (aJH (.champ 0 0 0) w):=by
 have h:=aGM (.champ 0 0 0) 0 0 0 (.inl rfl) w;rw[show nu 0=0 by unfold nu;rfl] at h;exact h
theorem aW3(w:World):Calls yM 6 #[] w (a4X w):=by
 go_enter func6,ntmps6;go_wp2_with fail;refine(a4Y w).mono ?_;rintro e w1⟨V,sb,mb,pb,rfl,hs,hk,rW⟩;have HK:=yN (yd hk rW);have HS:=yN hs;clear hs hk rW;go_wp2_with fail;refine(VP ⟨#[109,97,105,110]⟩ ⟨#[]⟩ ⟨#[]⟩ ⟨#[]⟩ 0 0 yO 0 0 w1 HS.o aGP rfl (ye 0) (by omega)).mono ?_;rintro e w2⟨a,rfl,⟨rfl,hs⟩,hm⟩;have ND:=yN hm;have lU:=yN hs;clear hs hm HS;unfold zI;go_wp2_with fail;refine(XW 0 none_ [] ⟨#[109,97,105,110]⟩ ⟨#[]⟩ ⟨#[97]⟩ ⟨#[49]⟩ 0 0 yO 0 0 w2 lU.o (by decide) rfl (.inl ⟨rfl,rfl,rfl⟩) (by omega) (J1.mono (by omega)) (by decide) (by decide) ((J1.on _ _ (by decide) (by decide)).mono (by omega))).mono ?_;rintro e w3⟨a1,rfl,hP,hm⟩;rcases hP with⟨he0,nD,gR,hs⟩ | ⟨h1,h2,_⟩
 rotate_left;·exact absurd h2 h1
 clear he0 nD;obtain⟨aL0,PN,br1,p9,hb1,hs⟩:∃aL0 PN br1,PN 1=upd none_ ⟨#[97]⟩ (yP ⟨#[49]⟩)∧br1 ⟨#[109,97,105,110]⟩=yP 1∧StR (.champ 0 0 0) V 1 1 aL0 PN br1 sb mb pb w3:=by
  refine⟨_,_,_,?_,?_,hs⟩;·rfl
  exact if_pos rfl
 have uR:aM (upd none_ ⟨#[97]⟩ (yP ⟨#[49]⟩)) 1:=J1.on _ _ (by decide) (by decide);have e1:a1.i=1:=by rw[gR];rfl
 have jF:=yN hs;have wR:=yN (ND.o.trans hm);have HE1:=yN e1;clear hs hm gR lU ND e1;have aO:=bM w3 (yL #[yE yH a1.e,yE yI a1.i,yE yH 0,yA a1.v,yD a1.b,yE yH a1.n,yC a1.pa a1.pn a1.pc,yC yO 0 0,yC a1.fa a1.fn a1.fc,yC a1.ia a1.il a1.ic,yC a1.na a1.nn a1.nc] 41);have aA:=aZ w3 (yL #[yE yH a1.e,yE yI a1.i,yE yH 0,yA a1.v,yD a1.b,yE yH a1.n,yC a1.pa a1.pn a1.pc,yC yO 0 0,yC a1.fa a1.fn a1.fc,yC a1.ia a1.il a1.ic,yC a1.na a1.nn a1.nc] 41);obtain⟨b3,hb3⟩:∃b,b=w3.heap.size:=⟨_,rfl⟩;have a94:Hid (¬V.S b3):=yN fun hh=>by have:=jF.o.v.slt hh;omega
 go_upto_region 5 with fail;rw[←hb3] at aO⊢;clear hb3;generalize w3.alloc _=w4 at *;have aL1:=yN aO;have nO:=yN (jF.o.kept aA);have oC:=yN (wR.o.trans (Sm.kept aA));clear aO aA jF wR;go_wp2_with fail;refine(XA 1 (PN 1) [1] ⟨#[109,97,105,110]⟩ ⟨#[]⟩ ⟨#[97]⟩ ⟨#[]⟩ 0 0 yO 0 0 w4 nO.o (by decide) hb1 (.inr ⟨⟨ye 1,ye 1⟩,rfl,rfl⟩) (by omega) (by rw[p9];exact uR.mono (by omega)) (by decide) (by rw[p9];exact(uR.off _).mono (by omega))).mono ?_;rintro e w5⟨a2,rfl,hP,hm⟩;rcases hP with⟨he0,nD,oA,hs⟩ | ⟨h1,h2,_⟩
 rotate_left
 ·rcases h2 with h2 | ⟨_,h2⟩
  ·exact absurd h2 h1
  rw[p9,DG] at h2;cases h2
 clear he0 nD;obtain⟨aL2,tm2,br2,wO,hs⟩:∃aL2 tm2 br2,tm2 1=PN 1∧StR (.champ 0 0 0) V 2 1 aL2 tm2 br2 sb mb pb w5:=by
  refine⟨_,_,_,?_,hs⟩;rfl
 have e2:a2.i=2:=by rw[oA];rfl
 have eC:=yN hs;have uL:=yN (oC.o.trans hm);have HB5:=yN ((hm.same _ (yo.1 aL1.o).1 a94.o).trans aL1.o);have HE2:=yN e2;clear hs hm oA nO oC e2 aL1;have aO:=bM w5 (yL #[yE yH a2.e,yE yI a2.i,yE yH 0,yA a2.v,yD a2.b,yE yH a2.n,yC a2.pa a2.pn a2.pc,yC yO 0 0,yC a2.fa a2.fn a2.fc,yC a2.ia a2.il a2.ic,yC a2.na a2.nn a2.nc] 41);have aA:=aZ w5 (yL #[yE yH a2.e,yE yI a2.i,yE yH 0,yA a2.v,yD a2.b,yE yH a2.n,yC a2.pa a2.pn a2.pc,yC yO 0 0,yC a2.fa a2.fn a2.fc,yC a2.ia a2.il a2.ic,yC a2.na a2.nn a2.nc] 41);obtain⟨b5,IL⟩:∃b,b=w5.heap.size:=⟨_,rfl⟩;have bJN:Hid (¬V.S b5):=yN fun hh=>by have:=eC.o.v.slt hh;omega
 go_upto_region 6 with fail;rw[←IL] at aO⊢;clear IL;generalize w5.alloc _=w6 at *;have aL3:=yN aO;have dQ:=yN (eC.o.kept aA);have vW:=yN (uL.o.trans (Sm.kept aA));have HB6:=yN ((aA.block _ (yo.1 HB5.o).1).trans HB5.o);clear aO aA eC uL HB5;go_wp2_with fail;refine(aJI ⟨#[]⟩ ⟨#[]⟩ ⟨#[97]⟩ ⟨#[]⟩ 1 0 yO 0 0 w6 dQ.o ⟨ye 1,by omega⟩ (by decide) (by rw[wO,p9];exact uR.mono (by omega))).mono ?_;rintro e w7⟨a3,rfl,⟨⟨lR,hv2,hv3⟩,hs⟩,hm⟩;have E6:Kept w6 w7:=hm.below (fun i hi=>hi.elim) (ye _);rw[wO,p9,DG] at lR hv2;have PO:=yN hs;have UG:=yN (vW.o.trans (Sm.kept E6));have HV:=yN (yd lR hv2);have HB7:=yN ((E6.block _ (yo.1 HB6.o).1).trans HB6.o);have HC7:=yN ((E6.block _ (yo.1 aL3.o).1).trans aL3.o);clear hs hm lR hv2 hv3 E6 HB6 aL3;have aO:=bM w7 (yL #[yE yH a3.e,yE yI a3.i,yE yH 0,yA a3.v,yD a3.b,yE yH a3.n,yC a3.pa a3.pn a3.pc,yC yO 0 0,yC a3.fa a3.fn a3.fc,yC a3.ia a3.il a3.ic,yC a3.na a3.nn a3.nc] 41);have aA:=aZ w7 (yL #[yE yH a3.e,yE yI a3.i,yE yH 0,yA a3.v,yD a3.b,yE yH a3.n,yC a3.pa a3.pn a3.pc,yC yO 0 0,yC a3.fa a3.fn a3.fc,yC a3.ia a3.il a3.ic,yC a3.na a3.nn a3.nc] 41);obtain⟨b7,gG⟩:∃b,b=w7.heap.size:=⟨_,rfl⟩;have bJO:Hid (¬V.S b7):=yN fun hh=>by have:=PO.o.v.slt hh;omega
 go_upto_region 7 with fail;rw[←gG] at aO⊢;clear gG;generalize w7.alloc _=w8 at *;have bJP:=yN aO;have HS8:=yN (PO.o.kept aA);have PD:=yN (UG.o.trans (Sm.kept aA));have c3:=aG (j:=1) ((aA.block _ (yo.1 HB7.o).1).trans HB7.o) rfl;have c5:=aG (j:=1) ((aA.block _ (yo.1 HC7.o).1).trans HC7.o) rfl;have c73:=ch 3 aO;have c74:=ch 4 aO;rw[HE1.o] at c3;rw[HE2.o] at c5;rw[HV.o.1] at c73;rw[HV.o.2] at c74;unfold ev at c73;simp only[Option.getD_some,Option.isSome_some] at c73 c74;have NK:(ByteArray.toList (⟨#[49]⟩:ByteArray) == ByteArray.toList (⟨#[49]⟩:ByteArray))=true:=by simp
 clear aO aA;go_wp2_with fail;go_ret;exact⟨rfl,yn HK.o.1 (PD.o.below HK.o.2 HK.o.1.size)⟩
end
section
open Sip
attribute [local irreducible] look
theorem GN(s:ByteArray)(w:World)(hs:s.size≤maxLen) :
  Calls yM 17 #[yA s,yE yH 0] w fun e w'=>e = .returned (yA (s.extract 0 (min s.size 30)))∧w=w':=by
 have hm:min (s.size:Int) 30=((min s.size 30:Nat):Int):=by omega
 have hle:min s.size 30≤s.size:=Nat.min_le_left _ _;go_enter func17,ntmps17;go_wp2_with fail;all_goals go_ret
 all_goals exact⟨rfl,rfl⟩
end
section
open Sip
attribute [local irreducible] look
theorem st3(w:World)(rb:Nat)(T:TypeId)(a0 a1 a2 v0 v1 v2:Value)(h:w.heap[rb]?=yP (yL #[a0,a1,a2] T)):(((w.setCell ⟨rb,0,yO⟩ v0).setCell ⟨rb,1,yO⟩ v1).setCell ⟨rb,2,yO⟩ v2).heap[rb]?=yP (yL #[v0,v1,v2] T)∧(∀i,i≠rb→(((w.setCell ⟨rb,0,yO⟩ v0).setCell ⟨rb,1,yO⟩ v1).setCell ⟨rb,2,yO⟩ v2).heap[i]?=w.heap[i]?)∧∀(w0:World) (B:Nat),Below B w0 w→B≤rb→Below B w0 (((w.setCell ⟨rb,0,yO⟩ v0).setCell ⟨rb,1,yO⟩ v1).setCell ⟨rb,2,yO⟩ v2):=by
 have h0:(w.setCell ⟨rb,0,yO⟩ v0).heap[rb]?=yP (yL #[v0,a1,a2] T):=heap_setCell h;have h1:((w.setCell ⟨rb,0,yO⟩ v0).setCell ⟨rb,1,yO⟩ v1).heap[rb]?=yP (yL #[v0,v1,a2] T):=heap_setCell h0;have h2:(((w.setCell ⟨rb,0,yO⟩ v0).setCell ⟨rb,1,yO⟩ v1).setCell ⟨rb,2,yO⟩ v2).heap[rb]?=yP (yL #[v0,v1,v2] T):=heap_setCell h1;refine⟨h2,fun i hi=>?_,fun w0 B hk hB=>?_⟩;·rw[yl _ _ _ _ (by simpa using hi),yl _ _ _ _ (by simpa using hi),yl _ _ _ _ (by simpa using hi)]
 exact(((hk.setCell (show B≤(⟨rb,0,yO⟩:Addr).block from hB) _).setCell (show B≤(⟨rb,1,yO⟩:Addr).block from hB) _).setCell (show B≤(⟨rb,2,yO⟩:Addr).block from hB) _)
theorem st5(w:World)(rb:Nat)(T:TypeId)(a0 a1 a2 a3 a4 v0 v1 v2 v3 v4:Value)(h:w.heap[rb]?=yP (yL #[a0,a1,a2,a3,a4] T)):(((((w.setCell ⟨rb,0,yO⟩ v0).setCell ⟨rb,1,yO⟩ v1).setCell ⟨rb,2,yO⟩ v2).setCell ⟨rb,3,yO⟩ v3).setCell ⟨rb,4,yO⟩ v4).heap[rb]?=yP (yL #[v0,v1,v2,v3,v4] T)∧(∀i,i≠rb→(((((w.setCell ⟨rb,0,yO⟩ v0).setCell ⟨rb,1,yO⟩ v1).setCell ⟨rb,2,yO⟩ v2).setCell ⟨rb,3,yO⟩ v3).setCell ⟨rb,4,yO⟩ v4).heap[i]?=w.heap[i]?)∧∀(w0:World) (B:Nat),Below B w0 w→B≤rb→Below B w0 (((((w.setCell ⟨rb,0,yO⟩ v0).setCell ⟨rb,1,yO⟩ v1).setCell ⟨rb,2,yO⟩ v2).setCell ⟨rb,3,yO⟩ v3).setCell ⟨rb,4,yO⟩ v4):=by
 have h0:(w.setCell ⟨rb,0,yO⟩ v0).heap[rb]?=yP (yL #[v0,a1,a2,a3,a4] T):=heap_setCell h;have h1:((w.setCell ⟨rb,0,yO⟩ v0).setCell ⟨rb,1,yO⟩ v1).heap[rb]?=yP (yL #[v0,v1,a2,a3,a4] T):=heap_setCell h0;have h2:(((w.setCell ⟨rb,0,yO⟩ v0).setCell ⟨rb,1,yO⟩ v1).setCell ⟨rb,2,yO⟩ v2).heap[rb]?=yP (yL #[v0,v1,v2,a3,a4] T):=heap_setCell h1;have h3:((((w.setCell ⟨rb,0,yO⟩ v0).setCell ⟨rb,1,yO⟩ v1).setCell ⟨rb,2,yO⟩ v2).setCell ⟨rb,3,yO⟩ v3).heap[rb]?=yP (yL #[v0,v1,v2,v3,a4] T):=heap_setCell h2;have h4:(((((w.setCell ⟨rb,0,yO⟩ v0).setCell ⟨rb,1,yO⟩ v1).setCell ⟨rb,2,yO⟩ v2).setCell ⟨rb,3,yO⟩ v3).setCell ⟨rb,4,yO⟩ v4).heap[rb]?=yP (yL #[v0,v1,v2,v3,v4] T):=heap_setCell h3;refine⟨h4,fun i hi=>?_,fun w0 B hk hB=>?_⟩;·rw[yl _ _ _ _ (by simpa using hi),yl _ _ _ _ (by simpa using hi),yl _ _ _ _ (by simpa using hi),yl _ _ _ _ (by simpa using hi),yl _ _ _ _ (by simpa using hi)]
 exact(((((hk.setCell (show B≤(⟨rb,0,yO⟩:Addr).block from hB) _).setCell (show B≤(⟨rb,1,yO⟩:Addr).block from hB) _).setCell (show B≤(⟨rb,2,yO⟩:Addr).block from hB) _).setCell (show B≤(⟨rb,3,yO⟩:Addr).block from hB) _).setCell (show B≤(⟨rb,4,yO⟩:Addr).block from hB) _)
theorem a2E(a b c:Int)(w:World):Calls yM 25 #[yF #[yE yJ a,yE yJ b,yE yJ c]] w fun e w'=>e = .returned (yF #[yE yJ a,yE yJ b,yE yJ c])∧Kept w w':=by
 obtain⟨ho,hz,aA⟩:=dF w (yL #[yE yJ a,yE yJ b,yE yJ c] 26) (yL #[yE yJ 0,yE yJ 0,yE yJ 0] 91);obtain⟨rb,aQ⟩:∃rb,rb=w.heap.size:=⟨_,rfl⟩;go_enter func25,ntmps25;go_upto_region 1 with fail;rw[←aQ] at ho hz⊢;generalize (w.alloc _).alloc _=w1 at *;have eT:=yN (yh aQ.symm);clear aQ;have q0:=ch 0 ho;have q1:=ch 1 ho;have q2:=ch 2 ho;have z0:=ch 0 hz;have f0:=fh 0 hz;have z1:=ch 1 hz;have f1:=fh 1 hz;have z2:=ch 2 hz;have f2:=fh 2 hz;have hs:=st3 w1 (rb+1) 91 _ _ _ (yE yJ a) (yE yJ b) (yE yJ c) hz;have HS:=yN hs;have HK:=yN (hs.2.2 w w.heap.size aA (by have:=eT.o;omega));clear hs ho hz aA;go_wp2_with fail;refine bodyPost_ret (eQ rfl rfl HS.o.1 underlying91 rfl (by kernel_rfl)) rfl ?_;exact⟨rfl,HK.o⟩
def a9T(w:World)(e:Ending)(w':World):Prop:=∃x0 x1 x2 x3:Int,e = .returned (.tuple #[yF #[yE yH x0,yE yJ x1,yE yJ x2,yE yJ x3,yC yO 0 0],yE yH 0])∧Kept w w'
theorem aT2(kd a b c:Int)(hk:kd=0∨kd=1)(w:World):Calls yM 97 #[yE yH kd,yF #[yE yJ a,yE yJ b,yE yJ c]] w (a9T w):=by
 obtain⟨ho,hz,aA⟩:=dF w (yL #[yE yJ a,yE yJ b,yE yJ c] 91) (yL #[yE yH 0,yE yJ 0,yE yJ 0,yE yJ 0,yC yO 0 0] 123);obtain⟨rb,aQ⟩:∃rb,rb=w.heap.size:=⟨_,rfl⟩;go_enter func97,ntmps97;go_upto_region 1 with fail;rw[←aQ] at ho hz⊢;generalize (w.alloc _).alloc _=w1 at *;have eT:=yN (yh aQ.symm);clear aQ;have q0:=ch 0 ho;have q1:=ch 1 ho;have q2:=ch 2 ho;have z0:=ch 0 hz;have f0:=fh 0 hz;have z1:=ch 1 hz;have f1:=fh 1 hz;have z2:=ch 2 hz;have f2:=fh 2 hz;have z3:=ch 3 hz;have f3:=fh 3 hz;have z4:=ch 4 hz;have f4:=fh 4 hz;rcases hk with rfl | rfl
 ·have hs:=st5 w1 (rb+1) 123 _ _ _ _ _ (yE yH 0) (yE yJ a) (yE yJ b) (yE yJ c) (yC yO 0 0) hz;have HS:=yN hs;have HK:=yN (hs.2.2 w w.heap.size aA (by have:=eT.o;omega));clear hs ho hz aA;go_wp2_with fail;refine bodyPost_ret (fK rfl rfl HS.o.1 underlying123 rfl (by kernel_rfl)) rfl ?_;exact⟨_,_,_,_,rfl,HK.o⟩
 have hs:=st5 w1 (rb+1) 123 _ _ _ _ _ (yE yH 1) (yE yJ 0) (yE yJ 0) (yE yJ 0) (yC yO 0 0) hz;have HS:=yN hs;have HK:=yN (hs.2.2 w w.heap.size aA (by have:=eT.o;omega));clear hs ho hz aA;go_wp2_with fail;refine bodyPost_ret (fK rfl rfl HS.o.1 underlying123 rfl (by kernel_rfl)) rfl ?_;exact⟨_,_,_,_,rfl,HK.o⟩
def aKC(w:World)(e:Ending)(w':World):Prop:=∃p:Addr,e = .returned (.tuple #[yB (yP p),yE yH 0])∧Kept w w'
theorem aT3(kd a b c:Int)(hk:kd=0∨kd=1)(w:World):Calls yM 46 #[yE yH kd,yF #[yE yJ a,yE yJ b,yE yJ c]] w (aKC w):=by
 obtain⟨aA,aO⟩:=aW w (yL #[yE yJ a,yE yJ b,yE yJ c] 91);obtain⟨rb,aQ⟩:∃rb,rb=w.heap.size:=⟨_,rfl⟩;go_enter func46,ntmps46;go_upto_region 1 with fail;rw[←aQ] at aO⊢;clear aQ;generalize w.alloc _=w1 at *;have q0:=ch 0 aO;have q1:=ch 1 aO;have q2:=ch 2 aO;have HA:=yN aA;clear aO aA;go_wp2_with fail;refine(aT2 kd a b c hk w1).mono ?_;rintro e w2⟨x0,x1,x2,x3,rfl,hk2⟩;have aH:=yN (aB HA.o hk2);clear q0 q1 q2 hk2;obtain⟨SD,hb3⟩:=aW w2 (yL #[yE yH x0,yE yJ x1,yE yJ x2,yE yJ x3,yC yO 0 0] 123);obtain⟨cb,hcb⟩:∃cb,cb=w2.heap.size:=⟨_,rfl⟩;go_upto_region 2 with fail;rw[←hcb] at hb3⊢;clear hcb;generalize w2.alloc _=w3 at *;have q0:=ch 0 hb3;have q1:=ch 1 hb3;have q2:=ch 2 hb3;have q3:=ch 3 hb3;have q4:=ch 4 hb3;have aL:=yN (aB aH.o SD);clear hb3 SD;go_wp2_with fail;go_ret2;refine⟨_,rfl,aB aL.o ?_⟩;refine aB (aZ w3 _) (aZ _ _)
theorem aT4(kd a b c:Int)(hk:kd=0∨kd=1)(w:World):Calls yM 24 #[yE yH kd,yF #[yE yJ a,yE yJ b,yE yJ c]] w (aKC w):=by
 obtain⟨aA,aO⟩:=aW w (yL #[yE yJ a,yE yJ b,yE yJ c] 91);obtain⟨rb,aQ⟩:∃rb,rb=w.heap.size:=⟨_,rfl⟩;go_enter func24,ntmps24;go_upto_region 1 with fail;rw[←aQ] at aO⊢;clear aQ;generalize w.alloc _=w1 at *;have q0:=ch 0 aO;have q1:=ch 1 aO;have q2:=ch 2 aO;have HA:=yN aA;clear aO aA;go_wp2_with fail;refine(aT3 kd a b c hk w1).mono ?_;rintro e w2⟨p,rfl,hk2⟩;have aH:=yN (aB HA.o hk2);clear q0 q1 q2 hk2;go_wp2_with fail;go_ret2;exact⟨_,rfl,aB aH.o (aZ w2 _)⟩
def IJ(kd:Nat)(k0 k1 mk:UInt64):Kn:=if kd % 2=0 then .champ k0 k1 mk else .radix
def a4U(K:Kn)(w:World)(e:Ending)(w':World):Prop:=∃V sb mb pb p,e = .returned (.tuple #[yB (yP ⟨sb,0,yO⟩),p])∧StR K V 0 0 (fun _=>[]) (fun _=>none_) (fun _=>yO) sb mb pb w'∧Kept w w'∧∀i,V.S i→w.heap.size≤i
theorem aWU(K:Kn)(kd:Nat)(k0 k1 mk:UInt64)(nB:kd<256)(hK:K=IJ kd k0 k1 mk)(w:World) :
  Calls yM 7 #[yE yK ((kd:Nat):Int),yF #[yE yJ (nu k0),yE yJ (nu k1),yE yJ (nu mk)]] w (a4U K w):=by
 have hnr:(K.nr:Int)=((kd % 2:Nat):Int):=by
  rw[hK];unfold IJ;split;·next h=>rw[h];rfl
  next h=>rw[show kd % 2=1 by omega];rfl
 have hK2:K = .champ k0 k1 mk∨K = .radix:=by
  rw[hK];unfold IJ;split;·exact .inl rfl
  exact .inr rfl
 have cH:(((kd % 2:Nat):Int))=0∨(((kd % 2:Nat):Int))=1:=by omega
 have aLY:Int.tmod ((kd:Nat):Int) 2=((kd % 2:Nat):Int):=by rw[Int.tmod_eq_emod_of_nonneg (by omega)];omega
 obtain⟨aA,aO⟩:=aW w (yL #[yE yJ (nu k0),yE yJ (nu k1),yE yJ (nu mk)] 26);obtain⟨rb,aQ⟩:∃rb,rb=w.heap.size:=⟨_,rfl⟩;go_enter func7,ntmps7;go_upto_region 1 with fail;rw[←aQ] at aO⊢;clear aQ;generalize w.alloc _=w1 at *;have q0:=ch 0 aO;have q1:=ch 1 aO;have q2:=ch 2 aO;have HA:=yN (yd aA aO);clear aO aA;go_wp2_with fail;have iH:=aGM K k0 k1 mk hK2 w1;rw[hnr] at iH;refine iH.mono ?_;rintro e w2⟨V,sb,mb,pb,rfl,hs,hk2,hV⟩;have hb2:=(hk2.block _ (yo.1 HA.o.2).1).trans HA.o.2;have lU:=yN (yd hs (yd (aB HA.o.1 hk2) (fun i hi=>yf HA.o.1.size (hV i hi))));clear q0 q1 q2 iH hs hk2 hV;have q0:=ch 0 hb2;have q1:=ch 1 hb2;have q2:=ch 2 hb2;clear hb2;go_wp2_with fail;refine(a2E (nu k0) (nu k1) (nu mk) w2).mono ?_;rintro e w3⟨rfl,hk3⟩;have jF:=yN (yd (lU.o.1.kept hk3) (aB lU.o.2.1 hk3));clear hk3 q0 q1 q2;go_wp2_with fail;refine(aT4 _ (nu k0) (nu k1) (nu mk) cH w3).mono ?_;rintro e w4⟨p,rfl,hk4⟩;have nO:=yN (yd (jF.o.1.kept hk4) (aB jF.o.2 hk4));clear hk4;go_wp2_with fail;go_ret2;exact⟨V,sb,mb,pb,_,rfl,nO.o.1,nO.o.2,lU.o.2.2⟩
end
section
open Sip
attribute [local irreducible] look
theorem P8(o t:Option Key)(w:World):(binOp .eql 67 (yF #[yA (ev o),yD o.isSome]) (yF #[yA (ev t),yD t.isSome])).run yM w = .ok (yD (decide (o=t))) w:=by
 have hS:yM.underlying 67=yP (.struct (yM.fieldsOf 67)):=by kernel_rfl
 have hp:yM.stoodInHeld 67=false:=by kernel_rfl
 rw[run_eql_struct,show (10000:Nat)=9999+1 from rfl,run_equalIn_agg w 9999 67 _ _ hS hp];simp only[Program.fieldsOf,underlying67];have hv:=qJ (ev o) (ev t);by_cases h1:ev o=ev t
 ·rw[decide_eq_true h1] at hv;by_cases h2:o.isSome=t.isSome
  ·have e:=aI9 h1 h2;subst e;go_simp
  have e:¬o=t:=fun e=>h2 (by rw[e]);have h3:(o.isSome == t.isSome)=false:=by simpa using h2
  go_simp
 rw[decide_eq_false h1] at hv;have e:¬o=t:=fun e=>h1 (by rw[e]);go_simp
theorem JS(b o t:Option Key)(n:Nat)(hn:n<4)(w:World):Calls yM 19 #[j2 b,j2 o,j2 t,yE yH ((n:Nat):Int)] w fun e w'=>e = .returned (.tuple #[j2 (cO b o t n).1,yD (cO b o t n).2])∧Kept w w':=by
 obtain⟨⟨hb,ho,ht,hz⟩,hk⟩:=C7 w (yL #[yA (ev b),yD b.isSome] 67) (yL #[yA (ev o),yD o.isSome] 67) (yL #[yA (ev t),yD t.isSome] 67) (yL #[yA ⟨#[]⟩,yD false] 67);have b0:=ch 0 hb;have b1:=ch 1 hb;have o0:=ch 0 ho;have o1:=ch 1 ho;have t0:=ch 0 ht;have t1:=ch 1 ht;have e1:=P8 o t;have e2:=P8 t b;have e3:=P8 o b;obtain⟨res,hres⟩:∃res,res=cO b o t n:=⟨_,rfl⟩;rw[←hres];have HR:=yN hres;unfold j2;have B7:n=0∨n=3∨n=1∨n=2:=by omega
 have hc:decide (o=t)=true∧res=(o,true)∨(decide (o=t)=false∧decide (o=b)=true∧res=(t,true))∨(decide (o=t)=false∧decide (o=b)=false∧decide (t=b)=true∧res=(o,true))∨(decide (o=t)=false∧decide (o=b)=false∧decide (t=b)=false∧(n=0∧res=(b,false)∨n=3∧res=(b,false)∨n=1∧res=(o,false)∨n=2∧res=(t,false))):=by
  rw[HR.o];unfold cO;by_cases c1:o=t;·exact .inl ⟨decide_eq_true c1,if_pos (.inl c1)⟩
  by_cases c3:o=b
  ·have c2:¬t=b:=fun c2=>c1 (c3.trans c2.symm);exact .inr (.inl ⟨decide_eq_false c1,decide_eq_true c3,by rw[if_neg (fun h=>h.elim c1 c2),if_pos c3]⟩)
  by_cases c2:t=b;·exact .inr (.inr (.inl ⟨decide_eq_false c1,decide_eq_false c3,decide_eq_true c2,if_pos (.inr c2)⟩))
  refine .inr (.inr (.inr ⟨decide_eq_false c1,decide_eq_false c3,decide_eq_false c2,?_⟩));rw[if_neg (fun h=>h.elim c1 c2),if_neg c3];rcases B7 with rfl | rfl | rfl | rfl <;> simp
 rcases hc with⟨c1,hr⟩ | ⟨c1,c2,hr⟩ | ⟨c1,c2,c3,hr⟩ | ⟨c1,c2,c3,hc⟩
 rotate_left 3;rcases hc with⟨hm,hr⟩ | ⟨hm,hr⟩ | ⟨hm,hr⟩ | ⟨hm,hr⟩
 all_goals
  simp only[c1] at e1;try simp only[c2] at e3
  try simp only[c3] at e2
  try clear c2
  try clear c3
  try subst hm
  subst hr
 all_goals
  go_enter func19,ntmps19;go_wp2_with fail;refine bodyPost_ret (fK rfl rfl (C7 w _ _ _ _).1.2.2.2 underlying67 rfl (by kernel_rfl)) rfl ?_;exact⟨rfl,(C7 w _ _ _ _).2⟩
variable {K:Kn} {V:VI} {n nb:Nat} {par:Nat→List Nat} {tm:Nat→Mp} {br:Key→Option Nat} {sb mb pb:Nat}
theorem a2L{w w':World}(h:Sm (fun _=>False) w w'):Kept w w':=h.below (fun i hi=>hi.elim) (ye _)
theorem uY(i:Nat)(key:Key)(tb:Nat)(w:World)(h:StR K V n nb par tm br sb mb pb w)(hi:1≤i∧i≤n)(hk:key.size≤1000)(hf:aM (tm i) 1000)(ht:w.cell? ⟨tb,0,yO⟩=yP (yB (yP ⟨sb,0,yO⟩))) :
  Calls yM 18 #[yE yI ((i:Nat):Int),yA key,yB (yP ⟨tb,0,yO⟩)] w fun e w'=>e = .returned (j2 (tm i key))∧Kept w w':=by
 obtain⟨aA,aO⟩:=aW w (yL #[yA ⟨#[]⟩,yD false] 67);obtain⟨rb,aQ⟩:∃rb,rb=w.heap.size:=⟨_,rfl⟩;have HS:=yN (h.kept aA);have p9:=aA.cell ht;clear h ht;go_enter func18,ntmps18;go_upto_region 1 with fail;rw[←aQ] at aO⊢;have eT:=yN (yh aQ.symm);generalize w.alloc _=w1 at *;have HA:=yN (yd aA aO);clear aO aA aQ;go_wp2_with fail;refine(aJI ⟨#[]⟩ ⟨#[]⟩ key ⟨#[]⟩ i 0 yO 0 0 w1 HS.o hi hk hf).mono ?_;rintro e w2⟨a,rfl,⟨⟨ha1,ha2,JD⟩,hs⟩,hm⟩;have hk2:=a2L hm;have hcb:=bM w2 (yL #[yE yH a.e,yE yI a.i,yE yH 0,yA a.v,yD a.b,yE yH a.n,yC a.pa a.pn a.pc,yC yO 0 0,yC a.fa a.fn a.fc,yC a.ia a.il a.ic,yC a.na a.nn a.nc] 41);have SD:=aZ w2 (yL #[yE yH a.e,yE yI a.i,yE yH 0,yA a.v,yD a.b,yE yH a.n,yC a.pa a.pn a.pc,yC yO 0 0,yC a.fa a.fn a.fc,yC a.ia a.il a.ic,yC a.na a.nn a.nc] 41);have aL:=yN (aB HA.o.1 (aB hk2 SD));have OU:=yN (((aB hk2 SD).block _ (yo.1 HA.o.2).1).trans HA.o.2);obtain⟨cb,vJ⟩:∃cb,cb=w2.heap.size:=⟨_,rfl⟩;have HV:=yN (yd ha1 ha2);clear hs hm hk2 p9 ha1 ha2 JD SD;go_upto_region 2 with fail;rw[←vJ] at hcb⊢;clear vJ;generalize w2.alloc _=w3 at *;have q3:=ch 3 hcb;have q4:=ch 4 hcb;rw[HV.o.1] at q3;rw[HV.o.2] at q4;clear hcb;obtain⟨z0,f0,z1,f1,hh,_,_,hbl⟩:=gZ w3 rb 67 _ _ (yA (ev (tm i key))) (yD (tm i key).isSome) OU.o;have HH:=yN hh;have TD:=yN (hbl w w.heap.size aL.o eT.o);clear hh hbl;go_wp2_with fail;refine bodyPost_ret (eQ rfl rfl HH.o underlying67 rfl (by kernel_rfl)) rfl ?_;exact⟨rfl,TD.o⟩
end
section
attribute [local irreducible] look
section
variable {e t:TypeId} {k bytes:Nat} {z:Value} {w:World} {o:Oper} {a:Act} {K:Act→World→Prop} {Q:Exit→Act→World→Prop}
theorem a9X(E:EI e t k bytes z)(s x:Operand)(ho:o.op = .call { callee:=.builtin .append,args:=#[s,x],argTypes:=#[t,t] })(B:Nat)(n:Nat)(news:List Value){v:Value}{xs:List Value}
  (hs:a.eval s=v) (hown:w.ownsRow B e k v n xs) (hB:B≤w.heap.size) (hx:a.eval x=yC (yP ⟨w.heap.size,0,yO⟩) 1 1) (hl:news.length=k) (h1:∀u∈news,u.oneCell'=true) (hn:n≤1000000)
  (h:∀v' w',w'.ownsRow B e k v' (n+1) (xs++news)→Below B w w'→World.grownBy w w' v.ownBlock→((v'.ownBlock=v.ownBlock∧v.ownBlock≠yO)∨(v'.ownBlock=yP (w.heap.size+1)∧Kept w w'))→K (a.put o.dst v') w') :
  Oper.wp yM o a (w.alloc (yL news.toArray e)) K Q:=by
 obtain⟨i,hi,hz,hsz,hby⟩:=E.i;have n9:=E.b;have aA:=aZ w (yL news.toArray e);have hw:=World.size_alloc w (yL news.toArray e);obtain⟨v',w',hr,h2,h3,h5⟩:=aJG (P:=yM) (w.alloc (yL news.toArray e)) B t o.type e i z k bytes E.u hi hz hsz hby E.z E.k v n xs (bT hown aA) ⟨w.heap.size,0,yO⟩ 1 1 news (by omega) (QH w news e) h1 (by omega) (by unfold maxLen;omega) (yf (Nat.mul_le_mul (show n+1≤1000001 by omega) n9) (by omega)) (by omega);unfold Oper.wp execOp;simp only[ho,resolve,invoke,builtin,Sem.run_bind,Sem.run_pure,Result.andThen_ok,List.map_toArray,List.map_cons,List.map_nil,hs,hx,hr];refine h v' w' h2 (Below.grown ((yk B w).alloc hB _) h3 (by omega) (fun g hg=>(hown.lt g hg).1)) ?_ ?_;·exact⟨h3.os,h3.tape,h3.output,by have:=h3.size;omega,fun j hj hne=>(h3.block j (by omega) hne).trans (aA.block j hj)⟩
 rcases h5 with h5 | ⟨h5,h6⟩
 ·exact .inl h5
 exact .inr ⟨by rw[h5,hw],⟨h6.os.trans aA.os,h6.tape.trans aA.tape,h6.output.trans aA.output,by have:=h6.size;omega,fun j hj=>(h6.block j (by omega) (by simp)).trans (aA.block j hj)⟩⟩
end
def uD(s:Key):Key:=s.extract 0 (min s.size 30)
def lQ(p:Pr):Pr:=(uD p.1,uD p.2)
theorem GC(s:Key):(uD s).size≤30:=by
 unfold uD;rw[ByteArray.size_extract];omega
theorem WK(l:List Pr):((l.take 14).map lQ).length≤14:=by
 rw[List.length_map,ze];omega
theorem VQ(l:List Pr):∀p∈(l.take 14).map lQ,p.1.size≤256∧p.2.size≤4096:=by
 intro p hp;obtain⟨q,_,rfl⟩:=zj.1 hp;have h1:=GC q.1;have h2:=GC q.2;exact⟨yf h1 (by omega),yf h2 (by omega)⟩
def a61(m:List Pr)(w:World)(e:Ending)(w':World):Prop:=∃v,e = .returned v∧w'.ownsRow w.heap.size 52 2 v m.length (aK m)∧Kept w w'
theorem a4V(l:List Pr)(j:Nat)(q:Pr)(hq:l[j]?=yP q):(l.take (min (j+1) 14)).map lQ=(l.take (min j 14)).map lQ++(if j<14 then [lQ q] else []):=by
 by_cases h:j<14
 ·rw[if_pos h,show min (j+1) 14=j+1 by omega,show min j 14=j by omega,List.take_add_one,hq];simp
 rw[if_neg h,show min (j+1) 14=14 by omega,show min j 14=14 by omega];simp
theorem VS(l:List Pr)(v:Value)(w:World)(h:Rd w v l.length (aK l))(hl:l.length≤maxLen)(hz:∀p∈l,p.1.size≤maxLen∧p.2.size≤maxLen) :
  Calls yM 9 #[v] w (a61 ((l.take 14).map lQ) w):=by
 obtain⟨a,cap,rfl⟩:=h.shape;have HR:=yN h;have HZ:=yN hz;have hl':l.length≤9223372036854775807:=hl;clear h hz hl;go_enter func9,ntmps9;go_wp2_with fail
 go_loopg [3,8] l.length (fun kx s3 s8 wr=>∃(j:Nat) (v3:Value) (o:List Pr),v3=s3∧s8=yE yH j∧j≤l.length∧o.length≤14∧l.length-j≤kx∧Hid (o=(l.take (min j 14)).map lQ)∧Hid (wr.ownsRow w.heap.size 52 2 v3 o.length (aK o))∧Hid (Kept w wr))
 case atStart=>exact⟨0,_,[],rfl,rfl,yg _,by simp,ye _,yN rfl,yN (World.ownsRow_nil _ _ _ _),yN (yk _ _)⟩
 obtain⟨j,v3,o,rfl,rfl,hj,vM,hm,HI,HO,HK⟩:=hrel;by_cases hlt:j<l.length
 ·have d1:decide ((j:Int)<(l.length:Int))=true:=by simp;omega
  obtain⟨q,hq⟩:∃q,l[j]?=yP q:=⟨l[j],List.getElem?_eq_getElem hlt⟩;obtain⟨g,off,rfl,hc1,hc2,e1,e2⟩:=DD (HR.o.kept HK.o) hq;have tK:=HZ.o q (List.mem_of_getElem? hq);have HN:Hid ((l.take (min (j+1) 14)).map lQ=o++(if j<14 then [lQ q] else [])):=yN (by rw[a4V l j q hq,←HI.o]);obtain⟨aA,aO⟩:=aW wr (yL #[yA q.1,yA q.2] 52);obtain⟨qb,uW⟩:∃qb,qb=wr.heap.size:=⟨_,rfl⟩;clear hq;go_upto_region 5 with fail;rw[←uW] at aO⊢;clear e1 e2;generalize wr.alloc _=wq at *;have iF:=yN (aB HK.o aA);have kV:=yN (bT HO.o aA);have sJ:Hid (∀g,v3.ownBlock=yP g→g≠qb):=yN fun g hg=>by have:=(HO.o.lt g hg).2;omega
  have HQ:=yN aO;have hsz:w.heap.size≤wq.heap.size:=iF.o.size;clear aO aA uW;by_cases h14:j<14
  ·have d14:decide ((j:Int)<14)=true:=by simp;omega
   have dN:Hid (o ++ [lQ q]=(l.take (min (j+1) 14)).map lQ):=yN (by rw[HN.o,if_pos h14]);go_upto_region 6 with fail;refine nX (fun W:World=>W.cell? ⟨qb,0,yO⟩=yP (yA q.1)∧W.cell? ⟨qb,1,yO⟩=yP (yA q.2)) 11 ?_;have aP:=yN (gB wq);generalize wq.drew=wd at *;have HKD:=yN (aB iF.o aP.o);have HOD:=yN (bT kV.o aP.o);have HC:=yN (yd (aP.o.cell (ch 0 HQ.o)) (aP.o.cell (ch 1 HQ.o)));refine tH 0 HC ?_;refine tH 1 HC ?_;refine tH 2 HC ?_;refine tH 4 HC ?_;refine tH 5 HC ?_;go_frame;refine oH 3 fun R hR=>?_;go_simp;refine(GN q.1 wd tK.1).mono ?_;rintro e w'⟨rfl,rfl⟩;refine hR _ _ HC.o ?_;clear hR R;refine oH 6 fun R hR=>?_;go_simp;refine(GN q.2 _ tK.2).mono ?_;rintro e w''⟨rfl,rfl⟩;refine hR _ _ HC.o ?_;clear hR R;refine tH 7 HC ?_;go_frame;refine oH 8 fun R hR=>?_;go_simp;have eZ:=aZ wd (yL #[yA (uD q.1),yA (uD q.2)] 52);refine hR _ _ ⟨eZ.cell HC.o.1,eZ.cell HC.o.2⟩ ?_;clear hR R eZ;refine oH 9 fun R hR=>?_;rw[if_pos (by rfl)];refine a9X (v:=v3) eiP _ _ rfl w.heap.size o.length [yA (uD q.1),yA (uD q.2)] rfl HOD.o (yf hsz aP.o.size) rfl rfl (DC _ _) (by omega) ?_;intro v9 w9 hown gV hgrow fU;have hq9:w9.heap[qb]?=wd.heap[qb]?:=hgrow.block qb (yi (yo.1 HQ.o).1 aP.o.size) (fun e=>sJ.o qb e.symm rfl);have pI:Hid (w9.ownsRow w.heap.size 52 2 v9 (o ++ [lQ q]).length (aK (o ++ [lQ q]))):=yN (by rw[lH,yy];exact hown);have eO:=yN (yn HKD.o gV);have nN:=yN (yd ((zn hq9).trans HC.o.1) ((zn hq9).trans HC.o.2));refine hR _ _ nN.o ?_;clear hR R hown gV hgrow fU hq9;refine tH 10 nN ?_;go_frame;refine dA ?_;go_wp2_with fail;go_roundg (l.length-(j+1));case measure=>omega
   exact⟨j+1,_,o ++ [lQ q],rfl,by go_num,by omega,by rw[dN.o];simp;omega,ye _,dN,pI,eO⟩
  have d14:decide ((j:Int)<14)=false:=by simp;omega
  have dN:Hid (o=(l.take (min (j+1) 14)).map lQ):=yN (by rw[HN.o,if_neg h14];simp);go_wp2_with fail;go_roundg (l.length-(j+1));case measure=>omega
  exact⟨j+1,_,o,rfl,by go_num,by omega,by omega,ye _,dN,kV,iF⟩
 have d1:decide ((j:Int)<(l.length:Int))=false:=by simp;omega
 have nZ:j=l.length:=by omega
 go_wp2_with fail;go_ret;refine⟨v3,rfl,?_,HK.o⟩;have:=HI.o;rw[nZ] at this;have h2:(l.take 14).map lQ=o:=by
  rw[this];by_cases h:l.length≤14;·rw[Nat.min_eq_left h,List.take_of_length_le (ye _),List.take_of_length_le h]
  rw[Nat.min_eq_right (by omega)]
 rw[h2];exact HO.o
end
section
open Sip
attribute [local irreducible] look
attribute [local go_sem] a90 a92 a65
variable {w:World} {cs:List Value} {n a b:Nat}
theorem LI.kept{K:Kn}{V:VI}{sb mb pb N ca cb:Nat}{w w':World}(h:LI K V sb mb pb N ca cb w)(hk:Kept w w'):LI K V sb mb pb N ca cb w':=by
 obtain⟨n,a,b,par,tm,A,h1,h2,h3,h4,h5⟩:=h;exact⟨n,a,b,par,tm,A,h1,h2,h3,h4,h5.kept hk⟩
theorem LI.more{K:Kn}{V:VI}{sb mb pb N ca cb N' PQ PR:Nat}(h:LI K V sb mb pb N ca cb w)(h1:N≤N')(h2:ca≤PQ)(h3:cb≤PR):LI K V sb mb pb N' PQ PR w:=by
 obtain⟨n,a,b,par,tm,A,q1,q2,q3,q4,q5⟩:=h;exact⟨n,a,b,par,tm,A,q1,yf q2 h1,q3.mono h2,q4.mono h3,q5⟩
theorem aJL{w':World}{B k:Nat}{e:TypeId}{v:Value}{S:Nat→Prop}(h:w.ownsRow B e k v n cs)(hs:Sm S w w')(hS:∀i,S i→i<B):w'.ownsRow B e k v n cs:=
 cF h fun g hg=>hs.same g (h.lt g hg).2 fun hh=>by have h1:=(h.lt g hg).1;have h2:=hS g hh;omega
theorem StR.slt{K:Kn}{V:VI}{n nb:Nat}{par:Nat→List Nat}{tm:Nat→Mp}{br:Key→Option Nat}{sb mb pb:Nat}{w:World}(h:StR K V n nb par tm br sb mb pb w):∀i,V.S i→i<w.heap.size:=fun i hi=>h.v.slt hi
theorem LI.slt{K:Kn}{V:VI}{sb mb pb N ca cb:Nat}{w:World}(h:LI K V sb mb pb N ca cb w):∀i,V.S i→i<w.heap.size:=by
 obtain⟨n,a,b,par,tm,A,h1,h2,h3,h4,h5⟩:=h;exact h5.slt
theorem JZ{P:Program}{ops:Array Oper}{Q:Exit→Act→World→Prop}{md:Region.Mode}{S S':World→Prop}(hS:∀w,S' w→S w):∀(f:Nat) (l:Array Bool) (a:Act) (w:World),AnyH P md ops Q S' f l a w→AnyH P md ops Q S f l a w
 | 0,_,_,_,h=>h
 | f+1,l,a,w,h=>⟨h.1,fun i hi=>wpOp_mono (fun a' w' k=>⟨hS _ k.1,JZ hS f _ a' w' k.2⟩) (h.2 i hi)⟩
theorem a4Z{a:Option Addr}{cap:Nat}(h:Rd w (yC a n cap) n cs){j:Nat}{u:Value}(hu:cs[j]?=yP u):∃g off,a=yP ⟨g,off,yO⟩∧n≤cap∧cap≤maxLen∧w.cell? ⟨g,off+j,yO⟩=yP u:=by
 rcases h with⟨a',cap',e,_,_,h0⟩ | ⟨g,off,cap',e,q1,q2,q3,q4⟩
 ·rw[h0] at hu;cases hu
 cases e;exact⟨g,off,rfl,q1,q2,q4 _ _ hu⟩
def AY(a b t:Nat):Nat:=if t=0 then 1 else if t=1 then a else b
theorem a42(ha:1≤a∧a≤n)(hb:1≤b∧b≤n)(t:Nat):1≤AY a b t∧AY a b t≤n:=by
 unfold AY;split;·omega
 split <;> omega
theorem aZ3{tm:Nat→Mp}{o:List Pr}(hr:bR o)(h:∀k,k∈o.map Prod.fst↔∃i,i<3∧tm (AY a b i) k≠yO):KeysOf (tm 1) (tm a) (tm b) (o.map Prod.fst):=by
 refine⟨by rw[List.pairwise_map];exact hr,fun k=>?_⟩;rw[h];constructor
 ·rintro⟨i,hi,hk⟩;obtain rfl | rfl | rfl:i=0∨i=1∨i=2:=by omega
  ·exact .inl hk
  ·exact .inr (.inl hk)
  exact .inr (.inr hk)
 rintro (hk | hk | hk);·exact⟨0,by omega,hk⟩
 ·exact⟨1,by omega,hk⟩
 exact⟨2,by omega,hk⟩
theorem aW4{L:List Cf}{i:Nat}{c:Cf}(h:L[i]?=yP c):(mV L)[7*i]?=yP (yA c.key):=by
 induction L generalizing i with
 | nil=>simp at h
 | cons d L ih=>
  cases i with
  | zero=>simp at h;subst h;rfl
  | succ i=>
   rw[List.getElem?_cons_succ] at h;have:=ih h;show (KN d++mV L)[7*(i+1)]?=_;rw[List.getElem?_append_right (by unfold KN;simp;omega)];rw[show 7*(i+1)-(KN d).length=7*i by unfold KN;simp;omega];exact this
theorem aFN(o:Option Key)(w:World):(binOp .neq 67 (yF #[yA (ev o),yD o.isSome]) (yF #[yA (ev o),yD o.isSome])).run yM w = .ok (yD false) w:=by
 have h:=P8 o o w;rw[run_eql_struct] at h;rw[run_neq_struct];generalize (Op.equalIn 10000 67 (yF #[yA (ev o),yD o.isSome]) (yF #[yA (ev o),yD o.isSome])).run yM w=E at *;cases E <;> simp[Result.andThen] at h⊢;exact h
def a2M(w:World)(e:Ending)(w':World):Prop:=e = .returned (yD true)∧Kept w w'
theorem aT8(kd:Nat)(k0 k1 mk:UInt64)(lb lo lt:List Pr)(lg:List Key)(vb vo vt vg:Value)(aN:Nat)(w:World)(nB:kd<256)(aL4:aN<256)
  (hb:Rd w vb lb.length (aK lb)) (hbl:lb.length≤maxLen) (wP:∀p∈lb,p.1.size≤maxLen∧p.2.size≤maxLen)
  (ho:Rd w vo lo.length (aK lo)) (I5:lo.length≤maxLen) (hoz:∀p∈lo,p.1.size≤maxLen∧p.2.size≤maxLen)
  (ht:Rd w vt lt.length (aK lt)) (htl:lt.length≤maxLen) (htz:∀p∈lt,p.1.size≤maxLen∧p.2.size≤maxLen)
  (hg:Rd w vg lg.length (lg.map Value.string)) (SF:lg.length≤maxLen) (hgz:∀s∈lg,s.size≤maxLen) :
  Calls yM 4 #[yE yK ((kd:Nat):Int),yF #[yE yJ (nu k0),yE yJ (nu k1),yE yJ (nu mk)],vb,vo,vt,vg,yE yK ((aN:Nat):Int)] w (a2M w):=by
 have HB:=yN (yd hb (yd hbl wP));have HO:=yN (yd ho (yd I5 hoz));have HT:=yN (yd ht (yd htl htz));have HG:=yN (yd hg hgz);have bJQ:lg.length≤9223372036854775807:=SF;obtain⟨ga,gc,rfl⟩:=hg.shape;clear hb hbl wP ho I5 hoz ht htl htz hg SF hgz;have aLY:Int.tmod ((aN:Nat):Int) 4=((aN % 4:Nat):Int):=by rw[Int.tmod_eq_emod_of_nonneg (by omega)];omega
 obtain⟨pn,sQ⟩:∃pn,pn=aN % 4:=⟨_,rfl⟩;rw[←sQ] at aLY;have xS:pn<4:=by rw[sQ];exact Nat.mod_lt _ (by omega)
 clear sQ;obtain⟨aA,aO⟩:=aW w (yL #[yE yJ (nu k0),yE yJ (nu k1),yE yJ (nu mk)] 26);obtain⟨rb,aQ⟩:∃rb,rb=w.heap.size:=⟨_,rfl⟩;go_enter func4,ntmps4;go_upto_region 1 with fail;rw[←aQ] at aO⊢;clear aQ;generalize w.alloc _=w1 at *;have HA:=yN (yd aA aO);clear aA aO;go_wp2_with fail;refine(aW3 w1).mono ?_;rintro e w2⟨rfl,hk2⟩;have aH:=yN (aB HA.o.1 hk2);have j5:=(hk2.block _ (yo.1 HA.o.2).1).trans HA.o.2;have q0:=ch 0 j5;have q1:=ch 1 j5;have q2:=ch 2 j5;clear j5 hk2;go_wp2_with fail;refine(aWU _ kd k0 k1 mk nB rfl w2).mono ?_;rintro e w3⟨V,sb,mb,pb,p,rfl,hs,hk3,rW⟩;obtain⟨aA,aO⟩:=aW w3 (yL #[yB (yP ⟨sb,0,yO⟩)] 30);obtain⟨tb,mD⟩:∃tb,tb=w3.heap.size:=⟨_,rfl⟩;have HVT:Hid (¬V.S tb):=yN fun hh=>by have:=hs.slt _ hh;omega
 have MN:Hid (∀i,V.S i→w.heap.size≤i):=yN fun i hi=>yf aH.o.size (rW i hi);clear q0 q1 q2 rW;go_upto_region 4 with fail;rw[←mD] at aO⊢;clear mD;generalize w3.alloc _=w0 at *;have bG:=yN (aB aH.o (aB hk3 aA));have sY:=yN (hs.kept aA);have lD:Hid (∀W,Sm V.S w0 W→W.cell? ⟨tb,0,yO⟩=yP (yB (yP ⟨sb,0,yO⟩))):=yN fun W hm=>hm.cell (ch 0 aO) HVT.o;have c0:=ch 0 aO;clear hs hk3 aA aO;go_wp2_with fail;refine(aT6 w0 sY.o).mono ?_;rintro e w4⟨v53,rfl,hs,hm⟩;have oC:=yN hm;have nO:=yN hs;clear hs hm c0;go_upto_region 7 with fail;refine nX (fun W:World=>W.cell? ⟨tb,0,yO⟩=yP (yB (yP ⟨sb,0,yO⟩))) 5 ?_;have aP:=yN (gB w4);generalize w4.drew=wd at *;have JM:=yN (oC.o.trans (Sm.kept aP.o));have wS:=yN (nO.o.kept aP.o);have HC:=yN (lD.o _ JM.o);have k9:=yN (yn bG.o (JM.o.below MN.o bG.o.size));refine tH 0 HC ?_;refine tH 1 HC ?_;go_frame;refine oH 2 fun R hR=>?_;go_simp;refine(VS lb vb wd (HB.o.1.kept k9.o) HB.o.2.1 HB.o.2.2).mono ?_;rintro e w5⟨vb1,rfl,hown,bQ⟩;obtain⟨mB,hmB⟩:∃m,m=(lb.take 14).map lQ:=⟨_,rfl⟩;have hlB:mB.length≤14:=by rw[hmB];exact WK _
 have HZB:Hid (∀p∈mB,p.1.size≤256∧p.2.size≤4096):=yN (by rw[hmB];exact VQ _);rw[←hmB] at hown;clear hmB;have wE:=dH hown;obtain⟨pa,pc,rfl⟩:=wE.shape;have uL:=yN (JM.o.trans (Sm.kept bQ));have eC:=yN (wS.o.kept bQ);have sL:=yN (lD.o _ uL.o);have HR5:=yN wE;refine hR _ _ sL.o ?_;clear hR R HC hown bQ wE;refine tH 3 sL ?_;go_frame;refine oH 4 fun R hR=>?_;go_simp;refine(aZ0 mB pa _ pc w5 eC.o hlB HZB.o HR5.o).mono ?_;rintro e w6⟨v58,rfl,hs,hm⟩;have vW:=yN (uL.o.trans hm);have dQ:=yN hs;have HC6:=yN (lD.o _ vW.o);refine hR _ _ HC6.o ?_;clear hR R hs hm sL HR5;refine dA ?_;have c0:=lD.o _ vW.o;go_wp2_with fail;refine(aZ1 w6 dQ.o).mono ?_;rintro e w7⟨v61,rfl,hs,hm⟩;have UG:=yN (vW.o.trans hm);have PO:=yN hs;clear hs hm c0 HC6;go_wp2_with fail;refine(VS lo vo w7 (HO.o.1.kept (yn bG.o (UG.o.below MN.o bG.o.size))) HO.o.2.1 HO.o.2.2).mono ?_;rintro e wao⟨vro,rfl,hown,hka⟩;obtain⟨mo,hmo⟩:∃m,m=(lo.take 14).map lQ:=⟨_,rfl⟩;have bGW:mo.length≤14:=by rw[hmo];exact WK _
 have HZo:Hid (∀p∈mo,p.1.size≤256∧p.2.size≤4096):=yN (by rw[hmo];exact VQ _);rw[←hmo] at hown;clear hmo;obtain⟨rao,rco,rfl⟩:=(dH hown).shape;have a95:=yN (UG.o.trans (Sm.kept hka));have a96:=yN (PO.o.kept hka);have a97:Hid (∀W,Sm V.S wao W→Rd W (yC rao mo.length rco) mo.length (aK mo)):=yN fun W hh=>dH (aJL hown hh PO.o.slt);clear hown hka UG PO;go_wp2_with fail
 go_loopg [65] mo.length (fun kx sx wr=>∃j:Nat,sx=yE yH j∧j≤mo.length∧mo.length-j≤kx∧Hid (LI (IJ kd k0 k1 mk) V sb mb pb (1+j) (14+j) 14 wr)∧Hid (Sm V.S wao wr))
 case atStart=>exact⟨0,rfl,yg _,ye _,yN a96.o,yN ⟨rfl,rfl,rfl,ye _,fun _ _ _=>rfl⟩⟩
 obtain⟨j,rfl,hj,qV,AZ,FJ⟩:=hrel;have uE:=yN (a95.o.trans FJ.o);by_cases hlt:j<mo.length
 ·have d1:decide ((j:Int)<(mo.length:Int))=true:=by simp;omega
  obtain⟨q,hq⟩:∃q,mo[j]?=yP q:=⟨mo[j],List.getElem?_eq_getElem hlt⟩;obtain⟨g,off,rfl,hc1,hc2,e1,e2⟩:=DD (a97.o _ FJ.o) hq;have tK:=HZo.o q (List.mem_of_getElem? hq);obtain⟨aA,aO⟩:=aW wr (yL #[yA q.1,yA q.2] 52);obtain⟨qb,uW⟩:∃qb,qb=wr.heap.size:=⟨_,rfl⟩;clear hq;go_upto_region 12 with fail;rw[←uW] at aO⊢;clear e1 e2 uW;generalize wr.alloc _=wq at *;have HLq:=yN (AZ.o.kept aA);have HMq:=yN (FJ.o.trans (Sm.kept aA));have c0:=lD.o _ (uE.o.trans (Sm.kept aA));have z0:=ch 0 aO;have z1:=ch 1 aO;clear aO aA;go_wp2_with fail;refine(aQ0 _ _ _ q.1 q.2 wq HLq.o (by omega) (by omega) tK.1 tK.2).mono ?_;rintro e w9⟨v75,rfl,hl,hm⟩;have wT:=yN hl;have lC:=yN (HMq.o.trans hm);clear hl hm c0 z0 z1;go_wp2_with fail;go_roundg (mo.length-(j+1));case measure=>omega
  exact⟨j+1,by go_num,by omega,ye _,yN wT.o,lC⟩
 have d1:decide ((j:Int)<(mo.length:Int))=false:=by simp;omega
 have HLA:=yN (AZ.o.more (N':=15) (PQ:=28) (PR:=14) (by omega) (by omega) (by omega));have HMA:=uE;clear AZ FJ uE a95 a96 a97 qV hj;go_wp2_with fail;refine(VS lt vt wr (HT.o.1.kept (yn bG.o (HMA.o.below MN.o bG.o.size))) HT.o.2.1 HT.o.2.2).mono ?_;rintro e wat⟨vrt,rfl,hown,hka⟩;obtain⟨mt,hmt⟩:∃m,m=(lt.take 14).map lQ:=⟨_,rfl⟩;have bGX:mt.length≤14:=by rw[hmt];exact WK _
 have HZt:Hid (∀p∈mt,p.1.size≤256∧p.2.size≤4096):=yN (by rw[hmt];exact VQ _);rw[←hmt] at hown;clear hmt;obtain⟨rat,rct,rfl⟩:=(dH hown).shape;have a98:=yN (HMA.o.trans (Sm.kept hka));have a99:=yN (HLA.o.kept hka);have bAA:Hid (∀W,Sm V.S wat W→Rd W (yC rat mt.length rct) mt.length (aK mt)):=yN fun W hh=>dH (aJL hown hh HLA.o.slt);clear hown hka HMA HLA;go_wp2_with fail
 go_loopg [80] mt.length (fun kx sx wr=>∃j:Nat,sx=yE yH j∧j≤mt.length∧mt.length-j≤kx∧Hid (LI (IJ kd k0 k1 mk) V sb mb pb (15+j) 28 (14+j) wr)∧Hid (Sm V.S wat wr))
 case atStart=>exact⟨0,rfl,yg _,ye _,yN a99.o,yN ⟨rfl,rfl,rfl,ye _,fun _ _ _=>rfl⟩⟩
 obtain⟨j,rfl,hj,qV,AZ,FJ⟩:=hrel;have uE:=yN (a98.o.trans FJ.o);by_cases hlt:j<mt.length
 ·have d1:decide ((j:Int)<(mt.length:Int))=true:=by simp;omega
  obtain⟨q,hq⟩:∃q,mt[j]?=yP q:=⟨mt[j],List.getElem?_eq_getElem hlt⟩;obtain⟨g,off,rfl,hc1,hc2,e1,e2⟩:=DD (bAA.o _ FJ.o) hq;have tK:=HZt.o q (List.mem_of_getElem? hq);obtain⟨aA,aO⟩:=aW wr (yL #[yA q.1,yA q.2] 52);obtain⟨qb,uW⟩:∃qb,qb=wr.heap.size:=⟨_,rfl⟩;clear hq;go_upto_region 17 with fail;rw[←uW] at aO⊢;clear e1 e2 uW;generalize wr.alloc _=wq at *;have HLq:=yN (AZ.o.kept aA);have HMq:=yN (FJ.o.trans (Sm.kept aA));have c0:=lD.o _ (uE.o.trans (Sm.kept aA));have z0:=ch 0 aO;have z1:=ch 1 aO;clear aO aA;go_wp2_with fail;refine(aQ1 _ _ _ q.1 q.2 wq HLq.o (by omega) (by omega) tK.1 tK.2).mono ?_;rintro e w9⟨v75,rfl,hl,hm⟩;have wT:=yN hl;have lC:=yN (HMq.o.trans hm);clear hl hm c0 z0 z1;go_wp2_with fail;go_roundg (mt.length-(j+1));case measure=>omega
  exact⟨j+1,by go_num,by omega,ye _,yN wT.o,lC⟩
 have d1:decide ((j:Int)<(mt.length:Int))=false:=by simp;omega
 have oK:=yN (AZ.o.more (N':=29) (PQ:=28) (PR:=28) (by omega) (by omega) (by omega));have x6:=uE;clear AZ FJ uE a98 a99 bAA qV hj;go_wp2_with fail
 go_loopg [94] lg.length (fun kx sx wr=>∃j:Nat,sx=yE yH j∧j≤lg.length∧lg.length-j≤kx∧Hid (LI (IJ kd k0 k1 mk) V sb mb pb (29+min j 10) 28 28 wr)∧Hid (Sm V.S w0 wr))
 case atStart=>exact⟨0,rfl,yg _,ye _,yN oK.o,x6⟩
 obtain⟨j,rfl,hj,qV,AZ,uE⟩:=hrel;by_cases hlt:j<lg.length
 ·have d1:decide ((j:Int)<(lg.length:Int))=true:=by simp;omega
  obtain⟨s,hs⟩:∃s,lg[j]?=yP s:=⟨lg[j],List.getElem?_eq_getElem hlt⟩;have aV:=yN (yn bG.o (uE.o.below MN.o bG.o.size));obtain⟨g,off,rfl,hc1,hc2,e1⟩:=a4Z (HG.o.1.kept aV.o) (show (lg.map Value.string)[j]?=yP (yA s) by rw[List.getElem?_map,hs];rfl);have hsz:=HG.o.2 s (List.mem_of_getElem? hs);clear hs;by_cases h10:j<10
  ·have d10:decide ((j:Int)<10)=true:=by simp;omega
   have aAK:Int.tmod (j:Int) 2=0∨Int.tmod (j:Int) 2=1:=by rw[Int.tmod_eq_emod_of_nonneg (by omega)];omega
   go_upto_region 23 with fail;refine nX (fun W:World=>W.cell? ⟨tb,0,yO⟩=yP (yB (yP ⟨sb,0,yO⟩))) 10 ?_;have aP:=yN (gB wr);clear e1;generalize wr.drew=wd at *;have JM:=yN (uE.o.trans (Sm.kept aP.o));have PS:=yN (AZ.o.kept aP.o);have HC:=yN (lD.o _ JM.o);obtain⟨hkb,aO⟩:=aW wd (yL #[yA ⟨#[109,97,105,110]⟩,yA ⟨#[115,105,100,101]⟩] 9);have PT:=yN (JM.o.trans (Sm.kept hkb));have UH:=yN (PS.o.kept hkb);have CW:=yN (lD.o _ PT.o);have xV:=yN aO;clear hkb aO;rcases aAK with aAK | aAK
   ·refine tH 0 HC ?_;go_frame;refine tH 2 HC ?_;refine tH 3 HC ?_;refine tH 6 HC ?_;go_frame;refine A8 (x:=1) (y:=7) (by kernel_rfl) rfl rfl (fun R hR=>?_) (fun R hR=>?_)
    ·go_simp;obtain⟨bz,wP⟩:∃bz,bz=wd.heap.size:=⟨_,rfl⟩;have FK:Hid (¬V.S bz):=yN fun hh=>by have:=PS.o.slt _ hh;omega
     have aO:=xV.o;rw[←wP] at aO⊢;clear wP;generalize wd.alloc _=wb at *;have D9:=PT;have EA:=UH;have bK:=yN (yd CW.o (ch 0 aO));refine hR _ _ CW.o ?_;clear hR R aO;refine JZ (S':=(fun W:World=>W.cell? ⟨tb,0,yO⟩=yP (yB (yP ⟨sb,0,yO⟩))∧W.cell? ⟨bz,0,yO⟩=yP (yA ⟨#[109,97,105,110]⟩))) (fun W h=>h.1) _ _ _ _ ?_;refine tH 4 bK ?_;refine tH 5 bK ?_;go_frame;refine oH 7 fun R hR=>?_;go_simp;refine(GN s wb hsz).mono ?_;rintro e w'⟨rfl,rfl⟩;refine hR _ _ bK.o ?_;clear hR R;refine tH 8 bK ?_;go_frame;refine oH 9 fun R hR=>?_;go_simp;refine(aEH _ _ _ (uD s) wb EA.o (by omega) (yf (GC s) (by omega))).mono ?_;rintro e w9⟨v75,rfl,hl,hm⟩;have wT:=yN hl;have lC:=yN (D9.o.trans hm);refine hR _ _ ⟨lD.o _ lC.o,hm.cell bK.o.2 FK.o⟩ ?_;clear hR R hl hm bK;refine dA ?_;go_wp2_with fail;go_roundg (lg.length-(j+1));case measure=>omega
     exact⟨j+1,by go_num,by omega,ye _,yN (wT.o.more (by omega) (ye _) (ye _)),lC⟩
    go_simp;refine(GN s wd hsz).mono ?_;rintro e w'⟨rfl,rfl⟩;refine hR _ _ HC.o ?_;clear hR R;refine oH 1 fun R hR=>?_;go_simp;obtain⟨bz,wP⟩:∃bz,bz=wd.heap.size:=⟨_,rfl⟩;have FK:Hid (¬V.S bz):=yN fun hh=>by have:=PS.o.slt _ hh;omega
    have aO:=xV.o;rw[←wP] at aO⊢;clear wP;generalize wd.alloc _=wb at *;have D9:=PT;have EA:=UH;have bK:=yN (yd CW.o (ch 0 aO));refine hR _ _ CW.o ?_;clear hR R aO;refine JZ (S':=(fun W:World=>W.cell? ⟨tb,0,yO⟩=yP (yB (yP ⟨sb,0,yO⟩))∧W.cell? ⟨bz,0,yO⟩=yP (yA ⟨#[109,97,105,110]⟩))) (fun W h=>h.1) _ _ _ _ ?_;refine tH 4 bK ?_;refine tH 5 bK ?_;refine tH 8 bK ?_;go_frame;refine oH 9 fun R hR=>?_;go_simp;refine(aEH _ _ _ (uD s) wb EA.o (by omega) (yf (GC s) (by omega))).mono ?_;rintro e w9⟨v75,rfl,hl,hm⟩;have wT:=yN hl;have lC:=yN (D9.o.trans hm);refine hR _ _ ⟨lD.o _ lC.o,hm.cell bK.o.2 FK.o⟩ ?_;clear hR R hl hm bK;refine dA ?_;go_wp2_with fail;go_roundg (lg.length-(j+1));case measure=>omega
    exact⟨j+1,by go_num,by omega,ye _,yN (wT.o.more (by omega) (ye _) (ye _)),lC⟩
   refine tH 0 HC ?_;go_frame;refine tH 2 HC ?_;refine tH 3 HC ?_;refine tH 6 HC ?_;go_frame;refine A8 (x:=1) (y:=7) (by kernel_rfl) rfl rfl (fun R hR=>?_) (fun R hR=>?_)
   ·go_simp;obtain⟨bz,wP⟩:∃bz,bz=wd.heap.size:=⟨_,rfl⟩;have FK:Hid (¬V.S bz):=yN fun hh=>by have:=PS.o.slt _ hh;omega
    have aO:=xV.o;rw[←wP] at aO⊢;clear wP;generalize wd.alloc _=wb at *;have D9:=PT;have EA:=UH;have bK:=yN (yd CW.o (ch 1 aO));refine hR _ _ CW.o ?_;clear hR R aO;refine JZ (S':=(fun W:World=>W.cell? ⟨tb,0,yO⟩=yP (yB (yP ⟨sb,0,yO⟩))∧W.cell? ⟨bz,1,yO⟩=yP (yA ⟨#[115,105,100,101]⟩))) (fun W h=>h.1) _ _ _ _ ?_;refine tH 4 bK ?_;refine tH 5 bK ?_;go_frame;refine oH 7 fun R hR=>?_;go_simp;refine(GN s wb hsz).mono ?_;rintro e w'⟨rfl,rfl⟩;refine hR _ _ bK.o ?_;clear hR R;refine tH 8 bK ?_;go_frame;refine oH 9 fun R hR=>?_;go_simp;refine(aEI _ _ _ (uD s) wb EA.o (by omega) (yf (GC s) (by omega))).mono ?_;rintro e w9⟨v75,rfl,hl,hm⟩;have wT:=yN hl;have lC:=yN (D9.o.trans hm);refine hR _ _ ⟨lD.o _ lC.o,hm.cell bK.o.2 FK.o⟩ ?_;clear hR R hl hm bK;refine dA ?_;go_wp2_with fail;go_roundg (lg.length-(j+1));case measure=>omega
    exact⟨j+1,by go_num,by omega,ye _,yN (wT.o.more (by omega) (ye _) (ye _)),lC⟩
   go_simp;refine(GN s wd hsz).mono ?_;rintro e w'⟨rfl,rfl⟩;refine hR _ _ HC.o ?_;clear hR R;refine oH 1 fun R hR=>?_;go_simp;obtain⟨bz,wP⟩:∃bz,bz=wd.heap.size:=⟨_,rfl⟩;have FK:Hid (¬V.S bz):=yN fun hh=>by have:=PS.o.slt _ hh;omega
   have aO:=xV.o;rw[←wP] at aO⊢;clear wP;generalize wd.alloc _=wb at *;have D9:=PT;have EA:=UH;have bK:=yN (yd CW.o (ch 1 aO));refine hR _ _ CW.o ?_;clear hR R aO;refine JZ (S':=(fun W:World=>W.cell? ⟨tb,0,yO⟩=yP (yB (yP ⟨sb,0,yO⟩))∧W.cell? ⟨bz,1,yO⟩=yP (yA ⟨#[115,105,100,101]⟩))) (fun W h=>h.1) _ _ _ _ ?_;refine tH 4 bK ?_;refine tH 5 bK ?_;refine tH 8 bK ?_;go_frame;refine oH 9 fun R hR=>?_;go_simp;refine(aEI _ _ _ (uD s) wb EA.o (by omega) (yf (GC s) (by omega))).mono ?_;rintro e w9⟨v75,rfl,hl,hm⟩;have wT:=yN hl;have lC:=yN (D9.o.trans hm);refine hR _ _ ⟨lD.o _ lC.o,hm.cell bK.o.2 FK.o⟩ ?_;clear hR R hl hm bK;refine dA ?_;go_wp2_with fail;go_roundg (lg.length-(j+1));case measure=>omega
   exact⟨j+1,by go_num,by omega,ye _,yN (wT.o.more (by omega) (ye _) (ye _)),lC⟩
  have d10:decide ((j:Int)<10)=false:=by simp;omega
  go_wp2_with fail;go_roundg (lg.length-(j+1));case measure=>omega
  exact⟨j+1,by go_num,by omega,ye _,yN (AZ.o.more (by omega) (ye _) (ye _)),uE⟩
 have d1:decide ((j:Int)<(lg.length:Int))=false:=by simp;omega
 obtain⟨n,a,b,par,tm,A,bU,hn,pY,jO,hs⟩:=(AZ.o.more (N':=39) (PQ:=28) (PR:=28) (by omega) (by omega) (by omega));have gT:=yN bU;have HSC:=yN hs;have O9:=uE;have c0:=lD.o _ O9.o;clear AZ uE qV hj bU pY jO hs;go_wp2_with fail;refine(aGQ a b wr HSC.o).mono ?_;rintro e wI⟨x,gh,rfl,⟨e3,e4,c1,c3⟩,hs,hm⟩;have bAB:=yN (O9.o.trans hm);have bAC:=yN hs;clear hs hm c0;go_wp2_with fail;go_big_quiet (fail);have aL5:Hid (Kept wI (wI.drewN nq)):=yN (iC (yk _ _) nq);generalize wI.drewN nq=uT at *;have aL6:=yN (bAB.o.trans (Sm.kept aL5.o));have bAD:=yN (bAC.o.kept aL5.o);have c0:=lD.o _ aL6.o;clear c1 c3;go_wp2_with fail;refine(aW2 a b pn A uT gT.o (by omega) xS bAD.o).mono ?_;rintro e OY⟨x,L,n',h,par',fQ,rfl,tJ,hfn,hrow,hs,j7,htm,mL,uS,hm,hres⟩;have hcb:=bM OY (yL #[yE yH x.e,yE yI x.i,yE yH 0,yA x.v,yD x.b,yE yH x.n,yC x.pa x.pn x.pc,yC yO 0 0,yC x.fa x.fn x.fc,yC x.ia x.il x.ic,yC x.na x.nn x.nc] 41);have aA:=aZ OY (yL #[yE yH x.e,yE yI x.i,yE yH 0,yA x.v,yD x.b,yE yH x.n,yC x.pa x.pn x.pc,yC yO 0 0,yC x.fa x.fn x.fc,yC x.ia x.il x.ic,yC x.na x.nn x.nc] 41);have gJ:=yN (hs.kept aA);have FL:=yN (aL6.o.trans (hm.trans (Sm.kept aA)));have bAE:=yN (hrow.imp id fun hh=>bT hh aA);have AU:=yN tJ;have HFN:=yN hfn;have FM:=yN htm;have aAL:=yN hres;obtain⟨wU,bAF⟩:∃wU,wU=OY.heap.size:=⟨_,rfl⟩;have HMV:Hid (¬V.S wU):=yN fun hh=>by have:=hs.slt _ hh;omega
 clear tJ hfn hrow hs htm hm hres aA c0;go_upto_region 32 with fail;rw[←bAF] at hcb⊢;clear bAF;generalize OY.alloc _=wm at *;have x6:=yN hcb;clear hcb aL6 bAD bAB bAC O9 HSC;have IW:=bM wm (yL #[yE yI 1,yE yI ((a:Nat):Int),yE yI ((b:Nat):Int)] 35);have bAG:=aZ wm (yL #[yE yI 1,yE yI ((a:Nat):Int),yE yI ((b:Nat):Int)] 35);obtain⟨ub,bAH⟩:∃ub,ub=wm.heap.size:=⟨_,rfl⟩;go_wp2_with fail;rw[←bAH] at IW⊢;clear bAH;generalize wm.alloc _=wu at *;have HKu:=yN bAG;have HU:Hid (∀t,t<3→wu.cell? ⟨ub,t,yO⟩=yP (yE yI ((AY a b t:Nat):Int))):=yN fun t ht=>by
  obtain rfl | rfl | rfl:t=0∨t=1∨t=2:=by omega
  ·exact ch 0 IW
  ·exact ch 1 IW
  exact ch 2 IW
 clear IW bAG
 go_loopg [30,139] 3 (fun kx OB bAI wr=>∃(t:Nat) (v:Value) (o:List Pr),v=OB∧bAI=yE yH t∧t≤3∧3-t≤kx∧o.length≤28*t∧Hid (bR o∧(∀x∈o,x.1.size≤256)∧∀k,k∈o.map Prod.fst↔∃i,i<t∧tm (AY a b i) k≠yO)∧Hid (Rd wr v o.length (aK o))∧Hid (Kept wu wr))
 case atStart=>exact⟨0,_,[],rfl,rfl,by omega,ye _,by simp,yN ⟨List.Pairwise.nil,fun x hx=>by simp at hx,fun k=>by simp⟩,yN (.inl ⟨yO,0,rfl,by unfold maxLen;omega,rfl,rfl⟩),yN (yk _ _)⟩
 obtain⟨t,v,o,rfl,rfl,AR,qV,I5,HI,HR,HK⟩:=hrel;by_cases hlt:t<3
 ·have d1:decide ((t:Int)<3)=true:=by simp;omega
  have hid:=a42 gT.o.a1 gT.o.b1 t;have hu:=HK.o.cell (HU.o t hlt);have HSr:=yN (gJ.o.kept (aB HKu.o HK.o));have aL7:=FM.o _ hid.1 hid.2;have c0:=lD.o _ (FL.o.trans (Sm.kept (aB HKu.o HK.o)));have bAJ:=gT.o.few (AY a b t);have aL8:=yN bAJ;clear bAJ;generalize hgi:AY a b t=it at *;have HGI:=yN hgi;clear hgi;go_wp2_with fail;refine(aZ2 it wr HSr.o ⟨hid.1,yf hid.2 j7⟩ (by rw[aL7];exact aL8.o.mono (by omega))).mono ?_;rintro e wl⟨xl,s,sa,sc,rfl,bU,wE,B6⟩;rw[aL7] at bU;have hsf:=aW1 bU aL8.o;have pB:=hsf.1;have NQ:=yN (yd bU hsf.2);have HRl:=yN (HR.o.kept B6);have HKl:=yN (aB HK.o B6);have sV:=yN wE;clear bU wE B6 hsf c0 hu HR HK;go_wp2_with fail
  go_loopg [30,149] s.length (fun kx OB bAK wr=>∃(j:Nat) (v2:Value) (o2:List Pr),v2=OB∧bAK=yE yH j∧j≤s.length∧s.length-j≤kx∧o2.length≤o.length+j∧Hid (bR o2∧(∀x∈o2,x.1.size≤256)∧∀k,k∈o2.map Prod.fst↔(k∈o.map Prod.fst∨k∈(s.take j).map Prod.fst))∧Hid (Rd wr v2 o2.length (aK o2))∧Hid (Kept wl wr))
  case atStart=>exact⟨0,_,o,rfl,rfl,yg _,ye _,by omega,yN ⟨HI.o.1,HI.o.2.1,fun k=>by simp⟩,HRl,yN (yk _ _)⟩
  obtain⟨j,v2,o2,rfl,rfl,hj,bJR,bJS,uN,zW,aAM⟩:=hrel;by_cases vF:j<s.length
  ·have d2:decide ((j:Int)<(s.length:Int))=true:=by simp;omega
   obtain⟨q,hq⟩:∃q,s[j]?=yP q:=⟨s[j],List.getElem?_eq_getElem vF⟩;obtain⟨g,off,rfl,hc1,hc2,e1,e2⟩:=DD (sV.o.kept aAM.o) hq;have tK:=NQ.o.2 q (List.mem_of_getElem? hq);have AP:Hid ((s.take (j+1)).map Prod.fst=(s.take j).map Prod.fst ++ [q.1]):=yN (by rw[List.take_add_one,hq];simp);obtain⟨aA,aO⟩:=aW wr (yL #[yA q.1,yA q.2] 52);obtain⟨qb,uW⟩:∃qb,qb=wr.heap.size:=⟨_,rfl⟩;clear hq;go_upto_region 40 with fail;rw[←uW] at aO⊢;clear e1 e2 uW;generalize wr.alloc _=wq at *;have z0:=ch 0 aO;have z1:=ch 1 aO;have iF:=yN (aB aAM.o aA);have HRq:=yN (zW.o.kept aA);clear aO aA;go_wp2_with fail;refine(aZX o2 q v2 wq HRq.o (by omega) (fun y hy=>yf (uN.o.2.1 y hy) (by omega)) (by omega)).mono ?_;rintro e w9⟨v9,rfl,hown,eZ⟩;have hpl:=aZW o2 q;have EJ:=a2I q uN.o.1
   have HI9:Hid (bR (vK o2 q)∧(∀x∈vK o2 q,x.1.size≤256)∧∀k,k∈(vK o2 q).map Prod.fst↔(k∈o.map Prod.fst∨k∈(s.take (j+1)).map Prod.fst)):=yN ⟨EJ.1,fun y hy=>by
    rcases(EJ.2 y.1).1 (List.mem_map_of_mem hy) with h1 | h1
    ·obtain⟨z,hz,e⟩:=zj.1 h1;rw[←e];exact uN.o.2.1 z hz
    rw[h1];exact tK,fun k=>by rw[EJ.2,uN.o.2.2,AP.o,za,List.mem_singleton,or_assoc]⟩
   have HR9:=yN (dH hown);have eO:=yN (aB iF.o eZ);generalize vK o2 q=o9 at *;clear EJ hown eZ z0 z1;go_wp2_with fail;go_roundg (s.length-(j+1));case measure=>omega
   exact⟨j+1,_,o9,rfl,by go_num,by omega,ye _,by omega,HI9,HR9,eO⟩
  have d2:decide ((j:Int)<(s.length:Int))=false:=by simp;omega
  have hjs:j=s.length:=by omega
  have HI3:Hid (bR o2∧(∀x∈o2,x.1.size≤256)∧∀k,k∈o2.map Prod.fst↔∃i,i<t+1∧tm (AY a b i) k≠yO):=yN ⟨uN.o.1,uN.o.2.1,fun k=>by
   rw[uN.o.2.2,HI.o.2.2,hjs,List.take_length,aT7 NQ.o.1];constructor
   ·rintro (⟨i,hi,hk⟩ | hk);·exact⟨i,by omega,hk⟩
    exact⟨t,by omega,by rw[HGI.o];exact hk⟩
   rintro⟨i,hi,hk⟩;by_cases e:i=t;·subst e;rw[HGI.o] at hk;exact .inr hk
   exact .inl ⟨i,by omega,hk⟩⟩
  have aL:=yN (aB HKl.o aAM.o);go_wp2_with fail;go_roundg (3-(t+1));case measure=>omega
  exact⟨t+1,_,o2,rfl,by go_num,by omega,ye _,by omega,HI3,zW,aL⟩
 have d1:decide ((t:Int)<3)=false:=by simp;omega
 obtain rfl:t=3:=by omega
 have HAK:=yN (aZ3 HI.o.1 HI.o.2.2);have HZK:=yN HI.o.2.1;have bJT:o.length≤84:=by omega
 clear qV hlt HI I5;obtain⟨va,vc,rfl⟩:=HR.o.shape;obtain⟨wo,rfl⟩:∃wo:World,wo=wr:=⟨_,rfl⟩;have qT:=yN (aB HKu.o HK.o);have HCA:=yN (a2G AU.o HAK.o);have HRo:=HR;obtain⟨keys,LJ⟩:∃keys,keys=o.map Prod.fst:=⟨_,rfl⟩;rw[←LJ] at HCA HAK;have HKE:=yN LJ;clear LJ HK HKu HU HR;go_wp2_with fail
 go_loopg [29,160] o.length (fun kx s29 bAL wr=>∃j c:Nat,s29=yE yH c∧bAL=yE yH j∧j≤o.length∧c≤j∧o.length-j≤kx∧Hid (c=((keys.take j).filter (AX (tm 1) (tm a) (tm b) pn)).length)∧Hid (Kept wo wr))
 case atStart=>exact⟨0,0,rfl,rfl,yg _,ye _,ye _,yN (by simp),yN (yk _ _)⟩
 obtain⟨j,c,rfl,rfl,hj,hcj,qV,HC,HK⟩:=hrel;by_cases hlt:j<o.length
 ·have d1:decide ((j:Int)<(o.length:Int))=true:=by simp;omega
  obtain⟨q,hq⟩:∃q,o[j]?=yP q:=⟨o[j],List.getElem?_eq_getElem hlt⟩;obtain⟨g,off,rfl,hc1,hc2,e1,e2⟩:=DD (HRo.o.kept HK.o) hq;have tK:=HZK.o q (List.mem_of_getElem? hq);have HKJ:Hid (keys[j]?=yP q.1):=yN (by rw[HKE.o,List.getElem?_map,hq];rfl);obtain⟨aA,aO⟩:=aW wr (yL #[yA q.1,yA q.2] 55);obtain⟨kb,hkb⟩:∃kb,kb=wr.heap.size:=⟨_,rfl⟩;clear hq;go_upto_region 46 with fail;rw[←hkb] at aO⊢;clear e1 e2 hkb;generalize wr.alloc _=wq at *;have iF:=yN (aB HK.o aA);have HQ:=yN aO;have M0:=yN (gJ.o.kept (aB qT.o iF.o));have HTq:=yN (lD.o _ (FL.o.trans (Sm.kept (aB qT.o iF.o))));obtain⟨tk,wA⟩:∃tk,cO (fQ 1 q.1) (fQ a q.1) (fQ b q.1) pn=tk:=⟨_,rfl⟩;have AP:=yN wA;have SE:Hid (cO (tm 1 q.1) (tm a q.1) (tm b q.1) pn=tk):=yN (by rw[←wA,FM.o 1 (by omega) (yf gT.o.a1.1 gT.o.a1.2),FM.o a gT.o.a1.1 gT.o.a1.2,FM.o b gT.o.b1.1 gT.o.b1.2]);have UD:1≤a∧a≤n':=⟨gT.o.a1.1,yf gT.o.a1.2 j7⟩;have hib:1≤b∧b≤n':=⟨gT.o.b1.1,yf gT.o.b1.2 j7⟩;have gR:1≤1∧1≤n':=⟨ye 1,by omega⟩;have HF:Hid (aM (fQ 1) 1000∧aM (fQ a) 1000∧aM (fQ b) 1000):=yN (by rw[FM.o 1 (by omega) (yf gT.o.a1.1 gT.o.a1.2),FM.o a gT.o.a1.1 gT.o.a1.2,FM.o b gT.o.b1.1 gT.o.b1.2];exact⟨(gT.o.few 1).mono (by omega),(gT.o.few a).mono (by omega),(gT.o.few b).mono (by omega)⟩);clear aO aA wA
  go_cut [37,38] from 164 to 182 (fun s37 s38 wx=>∃eD:Nat,s37=yB (yP ⟨eD,0,yO⟩)∧s38=yD tk.2∧Hid (wx.cell? ⟨eD,0,yO⟩=yP (yA (ev tk.1))∧wx.cell? ⟨eD,1,yO⟩=yP (yD tk.1.isSome))∧Hid (Kept wq wx))
  case first=>
   rename_i J0 K0 CM CN;refine nX (fun W:World=>W.cell? ⟨kb,0,yO⟩=yP (yA q.1)∧Kept wq.drew W) 22 ?_;have aP:=yN (gB wq);generalize wq.drew=wd at *;have wS:=yN (M0.o.kept aP.o);have tN:=yN (aP.o.cell HTq.o);have HQd:=yN (aP.o.cell (ch 0 HQ.o));have HS:Hid (∀W,Kept wd W→W.cell? ⟨kb,0,yO⟩=yP (yA q.1)∧Kept wd W):=yN fun W hk=>⟨hk.cell HQd.o,hk⟩;have bG:Hid (Kept wd wd):=yN (yk _ _);refine cL 0 (HS.o _ bG.o) (h:=?_);refine cL 1 (HS.o _ bG.o) (h:=?_);refine cL 2 (HS.o _ bG.o) (h:=?_);refine cL 4 (HS.o _ bG.o) (h:=?_);refine cL 5 (HS.o _ bG.o) (h:=?_);refine cL 6 (HS.o _ bG.o) (h:=?_);refine cL 7 (HS.o _ bG.o) (h:=?_);refine cL 9 (HS.o _ bG.o) (h:=?_);refine cL 10 (HS.o _ bG.o) (h:=?_);refine cL 11 (HS.o _ bG.o) (h:=?_);refine cL 12 (HS.o _ bG.o) (h:=?_);refine cL 14 (HS.o _ bG.o) (h:=?_);go_frame;refine A8 (x:=3) (y:=19) (by kernel_rfl) rfl rfl (fun R hR=>?_) (fun R hR=>?_)
   ·go_simp;refine(uY 1 q.1 tb wd (wS.o.kept bG.o) gR (by omega) HF.o.1 (bG.o.cell tN.o)).mono ?_;rintro e W1⟨rfl,hk⟩;have aJ:=yN (aB bG.o hk);refine hR _ _ (HS.o _ aJ.o) ?_;clear hR R hk;refine A8 (x:=8) (y:=19) (by kernel_rfl) rfl rfl (fun R hR=>?_) (fun R hR=>?_)
    ·go_simp;refine(uY a q.1 tb W1 (wS.o.kept aJ.o) UD (by omega) HF.o.2.1 (aJ.o.cell tN.o)).mono ?_;rintro e W2⟨rfl,hk⟩;have aH:=yN (aB aJ.o hk);refine hR _ _ (HS.o _ aH.o) ?_;clear hR R hk;refine A8 (x:=13) (y:=19) (by kernel_rfl) rfl rfl (fun R hR=>?_) (fun R hR=>?_)
     ·go_simp;refine(uY b q.1 tb W2 (wS.o.kept aH.o) hib (by omega) HF.o.2.2 (aH.o.cell tN.o)).mono ?_;rintro e W3⟨rfl,hk⟩;have aL:=yN (aB aH.o hk);refine hR _ _ (HS.o _ aL.o) ?_;clear hR R hk;refine A8 (x:=15) (y:=19) (by kernel_rfl) rfl rfl (fun R hR=>?_) (fun R hR=>?_)
      ·go_simp;refine(JS (fQ 1 q.1) (fQ a q.1) (fQ b q.1) pn xS W3).mono ?_;rintro e W4⟨rfl,hk⟩;rw[AP.o];unfold j2;have aR:=yN (aB aL.o hk);refine hR _ _ (HS.o _ aR.o) ?_;clear hR R hk;refine cL 16 (HS.o _ aR.o) (h:=?_);refine cL 17 (HS.o _ aR.o) (h:=?_);refine cL 18 (HS.o _ aR.o) (h:=?_);go_frame;refine oH 19 fun R hR=>?_;go_simp;obtain⟨hk,hz⟩:=aW W4 (yL #[yA ⟨#[]⟩,yD false] 67);obtain⟨eD,eI⟩:∃eD,eD=W4.heap.size:=⟨_,rfl⟩;rw[←eI] at hz⊢;have iP:Hid (wd.heap.size≤eD):=yN (by rw[eI];exact aR.o.size);clear eI;generalize W4.alloc _=W5 at *;have bI:=yN (aB aR.o hk);have A0:=yN hz;refine hR _ _ (HS.o _ bI.o) ?_;clear hR R hk hz;obtain⟨z0,f0,z1,f1,hh,_,_,hbl⟩:=gZ W5 eD 67 _ _ (yA (ev tk.1)) (yD tk.1.isSome) A0.o;refine oH 20 fun R hR=>?_;go_simp;have fO:=yN (hbl wd wd.heap.size bI.o iP.o);refine hR _ _ (HS.o _ fO.o) ?_;clear hR R z0 f0 z1 f1 hbl;have bK:=yN (yd (ch 0 hh) (ch 1 hh));clear hh;refine cL 21 (HS.o _ fO.o) (h:=?_);go_frame;refine dA ?_;refine CN _ _ (Met.intro (CM _ _ ?_))
       (repeat apply Exists.intro)
       exact⟨⟨_,rfl,rfl,bK,yN (aB aP.o fO.o)⟩,rfl⟩
      go_simp;obtain⟨hk,hz⟩:=aW W3 (yL #[yA ⟨#[]⟩,yD false] 67);obtain⟨eD,eI⟩:∃eD,eD=W3.heap.size:=⟨_,rfl⟩;rw[←eI] at hz⊢;have iP:Hid (wd.heap.size≤eD):=yN (by rw[eI];exact aL.o.size);clear eI;generalize W3.alloc _=W4 at *;have aR:=yN (aB aL.o hk);have wV:=yN hz;refine hR _ _ (HS.o _ aR.o) ?_;clear hR R hk hz;refine oH 15 fun R hR=>?_;go_simp;refine(JS (fQ 1 q.1) (fQ a q.1) (fQ b q.1) pn xS W4).mono ?_;rintro e W5⟨rfl,hk⟩;rw[AP.o];unfold j2;have bI:=yN (aB aR.o hk);have A0:=yN ((hk.block _ (yo.1 wV.o).1).trans wV.o);refine hR _ _ (HS.o _ bI.o) ?_;clear hR R hk;refine cL 16 (HS.o _ bI.o) (h:=?_);refine cL 17 (HS.o _ bI.o) (h:=?_);refine cL 18 (HS.o _ bI.o) (h:=?_);go_frame;obtain⟨z0,f0,z1,f1,hh,_,_,hbl⟩:=gZ W5 eD 67 _ _ (yA (ev tk.1)) (yD tk.1.isSome) A0.o;refine oH 20 fun R hR=>?_;go_simp;have fO:=yN (hbl wd wd.heap.size bI.o iP.o);refine hR _ _ (HS.o _ fO.o) ?_;clear hR R z0 f0 z1 f1 hbl;have bK:=yN (yd (ch 0 hh) (ch 1 hh));clear hh;refine cL 21 (HS.o _ fO.o) (h:=?_);go_frame;refine dA ?_;refine CN _ _ (Met.intro (CM _ _ ?_))
      (repeat apply Exists.intro)
      exact⟨⟨_,rfl,rfl,bK,yN (aB aP.o fO.o)⟩,rfl⟩
     go_simp;obtain⟨hk,hz⟩:=aW W2 (yL #[yA ⟨#[]⟩,yD false] 67);obtain⟨eD,eI⟩:∃eD,eD=W2.heap.size:=⟨_,rfl⟩;rw[←eI] at hz⊢;have iP:Hid (wd.heap.size≤eD):=yN (by rw[eI];exact aH.o.size);clear eI;generalize W2.alloc _=W3 at *;have aL:=yN (aB aH.o hk);have xT:=yN hz;refine hR _ _ (HS.o _ aL.o) ?_;clear hR R hk hz;refine oH 13 fun R hR=>?_;go_simp;refine(uY b q.1 tb W3 (wS.o.kept aL.o) hib (by omega) HF.o.2.2 (aL.o.cell tN.o)).mono ?_;rintro e W4⟨rfl,hk⟩;have aR:=yN (aB aL.o hk);have wV:=yN ((hk.block _ (yo.1 xT.o).1).trans xT.o);refine hR _ _ (HS.o _ aR.o) ?_;clear hR R hk;refine oH 15 fun R hR=>?_;go_simp;refine(JS (fQ 1 q.1) (fQ a q.1) (fQ b q.1) pn xS W4).mono ?_;rintro e W5⟨rfl,hk⟩;rw[AP.o];unfold j2;have bI:=yN (aB aR.o hk);have A0:=yN ((hk.block _ (yo.1 wV.o).1).trans wV.o);refine hR _ _ (HS.o _ bI.o) ?_;clear hR R hk;refine cL 16 (HS.o _ bI.o) (h:=?_);refine cL 17 (HS.o _ bI.o) (h:=?_);refine cL 18 (HS.o _ bI.o) (h:=?_);go_frame;obtain⟨z0,f0,z1,f1,hh,_,_,hbl⟩:=gZ W5 eD 67 _ _ (yA (ev tk.1)) (yD tk.1.isSome) A0.o;refine oH 20 fun R hR=>?_;go_simp;have fO:=yN (hbl wd wd.heap.size bI.o iP.o);refine hR _ _ (HS.o _ fO.o) ?_;clear hR R z0 f0 z1 f1 hbl;have bK:=yN (yd (ch 0 hh) (ch 1 hh));clear hh;refine cL 21 (HS.o _ fO.o) (h:=?_);go_frame;refine dA ?_;refine CN _ _ (Met.intro (CM _ _ ?_))
     (repeat apply Exists.intro)
     exact⟨⟨_,rfl,rfl,bK,yN (aB aP.o fO.o)⟩,rfl⟩
    go_simp;obtain⟨hk,hz⟩:=aW W1 (yL #[yA ⟨#[]⟩,yD false] 67);obtain⟨eD,eI⟩:∃eD,eD=W1.heap.size:=⟨_,rfl⟩;rw[←eI] at hz⊢;have iP:Hid (wd.heap.size≤eD):=yN (by rw[eI];exact aJ.o.size);clear eI;generalize W1.alloc _=W2 at *;have aH:=yN (aB aJ.o hk);have tB:=yN hz;refine hR _ _ (HS.o _ aH.o) ?_;clear hR R hk hz;refine oH 8 fun R hR=>?_;go_simp;refine(uY a q.1 tb W2 (wS.o.kept aH.o) UD (by omega) HF.o.2.1 (aH.o.cell tN.o)).mono ?_;rintro e W3⟨rfl,hk⟩;have aL:=yN (aB aH.o hk);have xT:=yN ((hk.block _ (yo.1 tB.o).1).trans tB.o);refine hR _ _ (HS.o _ aL.o) ?_;clear hR R hk;refine oH 13 fun R hR=>?_;go_simp;refine(uY b q.1 tb W3 (wS.o.kept aL.o) hib (by omega) HF.o.2.2 (aL.o.cell tN.o)).mono ?_;rintro e W4⟨rfl,hk⟩;have aR:=yN (aB aL.o hk);have wV:=yN ((hk.block _ (yo.1 xT.o).1).trans xT.o);refine hR _ _ (HS.o _ aR.o) ?_;clear hR R hk;refine oH 15 fun R hR=>?_;go_simp;refine(JS (fQ 1 q.1) (fQ a q.1) (fQ b q.1) pn xS W4).mono ?_;rintro e W5⟨rfl,hk⟩;rw[AP.o];unfold j2;have bI:=yN (aB aR.o hk);have A0:=yN ((hk.block _ (yo.1 wV.o).1).trans wV.o);refine hR _ _ (HS.o _ bI.o) ?_;clear hR R hk;refine cL 16 (HS.o _ bI.o) (h:=?_);refine cL 17 (HS.o _ bI.o) (h:=?_);refine cL 18 (HS.o _ bI.o) (h:=?_);go_frame;obtain⟨z0,f0,z1,f1,hh,_,_,hbl⟩:=gZ W5 eD 67 _ _ (yA (ev tk.1)) (yD tk.1.isSome) A0.o;refine oH 20 fun R hR=>?_;go_simp;have fO:=yN (hbl wd wd.heap.size bI.o iP.o);refine hR _ _ (HS.o _ fO.o) ?_;clear hR R z0 f0 z1 f1 hbl;have bK:=yN (yd (ch 0 hh) (ch 1 hh));clear hh;refine cL 21 (HS.o _ fO.o) (h:=?_);go_frame;refine dA ?_;refine CN _ _ (Met.intro (CM _ _ ?_))
    (repeat apply Exists.intro)
    exact⟨⟨_,rfl,rfl,bK,yN (aB aP.o fO.o)⟩,rfl⟩
   go_simp;obtain⟨hk,hz⟩:=aW wd (yL #[yA ⟨#[]⟩,yD false] 67);obtain⟨eD,eI⟩:∃eD,eD=wd.heap.size:=⟨_,rfl⟩;rw[←eI] at hz⊢;have iP:Hid (wd.heap.size≤eD):=yN (by rw[eI];exact bG.o.size);clear eI;generalize wd.alloc _=W1 at *;have aJ:=yN (aB bG.o hk);have HZ1:=yN hz;refine hR _ _ (HS.o _ aJ.o) ?_;clear hR R hk hz;refine oH 3 fun R hR=>?_;go_simp;refine(uY 1 q.1 tb W1 (wS.o.kept aJ.o) gR (by omega) HF.o.1 (aJ.o.cell tN.o)).mono ?_;rintro e W2⟨rfl,hk⟩;have aH:=yN (aB aJ.o hk);have tB:=yN ((hk.block _ (yo.1 HZ1.o).1).trans HZ1.o);refine hR _ _ (HS.o _ aH.o) ?_;clear hR R hk;refine oH 8 fun R hR=>?_;go_simp;refine(uY a q.1 tb W2 (wS.o.kept aH.o) UD (by omega) HF.o.2.1 (aH.o.cell tN.o)).mono ?_;rintro e W3⟨rfl,hk⟩;have aL:=yN (aB aH.o hk);have xT:=yN ((hk.block _ (yo.1 tB.o).1).trans tB.o);refine hR _ _ (HS.o _ aL.o) ?_;clear hR R hk;refine oH 13 fun R hR=>?_;go_simp;refine(uY b q.1 tb W3 (wS.o.kept aL.o) hib (by omega) HF.o.2.2 (aL.o.cell tN.o)).mono ?_;rintro e W4⟨rfl,hk⟩;have aR:=yN (aB aL.o hk);have wV:=yN ((hk.block _ (yo.1 xT.o).1).trans xT.o);refine hR _ _ (HS.o _ aR.o) ?_;clear hR R hk;refine oH 15 fun R hR=>?_;go_simp;refine(JS (fQ 1 q.1) (fQ a q.1) (fQ b q.1) pn xS W4).mono ?_;rintro e W5⟨rfl,hk⟩;rw[AP.o];unfold j2;have bI:=yN (aB aR.o hk);have A0:=yN ((hk.block _ (yo.1 wV.o).1).trans wV.o);refine hR _ _ (HS.o _ bI.o) ?_;clear hR R hk;refine cL 16 (HS.o _ bI.o) (h:=?_);refine cL 17 (HS.o _ bI.o) (h:=?_);refine cL 18 (HS.o _ bI.o) (h:=?_);go_frame;obtain⟨z0,f0,z1,f1,hh,_,_,hbl⟩:=gZ W5 eD 67 _ _ (yA (ev tk.1)) (yD tk.1.isSome) A0.o;refine oH 20 fun R hR=>?_;go_simp;have fO:=yN (hbl wd wd.heap.size bI.o iP.o);refine hR _ _ (HS.o _ fO.o) ?_;clear hR R z0 f0 z1 f1 hbl;have bK:=yN (yd (ch 0 hh) (ch 1 hh));clear hh;refine cL 21 (HS.o _ fO.o) (h:=?_);go_frame;refine dA ?_;refine CN _ _ (Met.intro (CM _ _ ?_))
   (repeat apply Exists.intro)
   exact⟨⟨_,rfl,rfl,bK,yN (aB aP.o fO.o)⟩,rfl⟩
  obtain⟨eD,rfl,rfl,HW,HKc⟩:=hcut;have k9:=yN (aB iF.o HKc.o);have PU:=yN (HKc.o.cell (ch 0 HQ.o));obtain mY | mY:tk.2=true∨tk.2=false:=by cases tk.2 <;> simp
  ·rw[mY]
   have PV:Hid (c=((keys.take (j+1)).filter (AX (tm 1) (tm a) (tm b) pn)).length):=yN (by
    rw[aEY _ keys j _ HKJ.o,←HC.o,show (AX (tm 1) (tm a) (tm b) pn) q.1=false by unfold AX;rw[SE.o,mY];rfl];simp)
   have PW:=HW;go_upto_region 51 with fail;have vL:=((aB qT.o k9.o).block _ (yo.1 x6.o).1).trans x6.o;have HSw:=yN (gJ.o.kept (aB qT.o k9.o));have x7:=ch 0 vL;have FN:=ch 1 vL;clear vL;rcases aAL.o with⟨he,iW,hL,hha⟩ | ⟨he,hi,iW,mJ,hmap⟩
   ·rw[he] at x7;clear he iW hL hha;go_wp2_with fail;go_big_quiet (fail);have eX:=yN (iC k9.o nq);clear x7 FN;generalize wc.drewN nq=wn at *;go_wp2_with fail;go_roundg (o.length-(j+1));case measure=>omega
    exact⟨j+1,c,rfl,by go_num,by omega,by omega,ye _,PV,eX⟩
   rw[he] at x7;rw[hi] at FN;have E5:fQ h q.1=tk.1:=by rw[hmap,SE.o]
   have xZ:=yN mJ;have HMK:=yN E5;clear he hi iW mJ hmap E5;refine nX (fun W:World=>(W.cell? ⟨wU,0,yO⟩=yP (yE yH 0)∧W.cell? ⟨wU,1,yO⟩=yP (yE yI ((h:Nat):Int))∧W.cell? ⟨kb,0,yO⟩=yP (yA q.1)∧W.cell? ⟨eD,0,yO⟩=yP (yA (ev tk.1))∧W.cell? ⟨eD,1,yO⟩=yP (yD tk.1.isSome))) 13 ?_;have aP:=yN (gB wc);have eC:Hid (∀W,Kept wc W→(W.cell? ⟨wU,0,yO⟩=yP (yE yH 0)∧W.cell? ⟨wU,1,yO⟩=yP (yE yI ((h:Nat):Int))∧W.cell? ⟨kb,0,yO⟩=yP (yA q.1)∧W.cell? ⟨eD,0,yO⟩=yP (yA (ev tk.1))∧W.cell? ⟨eD,1,yO⟩=yP (yD tk.1.isSome))):=yN fun W hk=>⟨hk.cell x7,hk.cell FN,hk.cell PU.o,hk.cell PW.o.1,hk.cell PW.o.2⟩;clear x7 FN;generalize wc.drew=wd at *;have HC:=yN (eC.o _ aP.o);have tN:=yN (lD.o _ (FL.o.trans (Sm.kept (aB qT.o (aB k9.o aP.o)))));refine tH 0 HC ?_;refine tH 1 HC ?_;refine tH 2 HC ?_;refine tH 3 HC ?_;refine cL 4 HC.o (hw:=by kernel_rfl) (h:=?_);refine cL 5 HC.o (hw:=by kernel_rfl) (h:=?_);refine cL 6 HC.o (hw:=by kernel_rfl) (h:=?_);refine cL 7 HC.o (hw:=by kernel_rfl) (h:=?_);refine cL 8 HC.o (hw:=by kernel_rfl) (h:=?_);refine cL 10 HC.o (hw:=by kernel_rfl) (h:=?_);go_frame;refine oH 9 fun R hR=>?_;rw[if_pos (by kernel_rfl)];go_simp;refine(uY h q.1 tb wd (HSw.o.kept aP.o) ⟨mL,uS⟩ (by omega) xZ.o tN.o).mono ?_;rintro e we⟨rfl,hk⟩;rw[HMK.o];unfold j2;have lZ:=yN (aB aP.o hk);refine hR _ _ (eC.o _ lZ.o) ?_;clear hR R hk HC;have HC:=yN (eC.o _ lZ.o);have bAM:=aFN tk.1;refine cL 11 HC.o (hw:=by kernel_rfl) (h:=?_);refine tH 12 HC ?_;go_frame;refine dA ?_;go_wp2_with fail;go_roundg (o.length-(j+1));case measure=>omega
   exact⟨j+1,c,rfl,by go_num,by omega,by omega,ye _,PV,yN (aB k9.o lZ.o)⟩
  rw[mY];have hp:(AX (tm 1) (tm a) (tm b) pn) q.1=true:=by unfold AX;rw[SE.o,mY];rfl
  have PV:Hid (c+1=((keys.take (j+1)).filter (AX (tm 1) (tm a) (tm b) pn)).length):=yN (by
   rw[aEY _ keys j _ HKJ.o,←HC.o,hp];simp)
  have hat:=aWW _ keys j q.1 HKJ.o hp;rw[←HC.o,←HCA.o,List.getElem?_map] at hat;obtain⟨cf,tJ,nW⟩:∃cf,L[c]?=yP cf∧cf.key=q.1:=by simpa using hat
  have UI:c<L.length:=(List.getElem?_eq_some_iff.1 tJ).1;have hown:=bT (bAE.o.resolve_left (fun e=>by rw[e] at UI;simp at UI)) (aB qT.o k9.o);obtain⟨gf,IK,hfe,bJU,bJV,e0⟩:∃gf IK,yC x.fa x.fn x.fc=yC (yP ⟨gf,0,yO⟩) L.length IK∧L.length≤IK∧IK≤maxLen∧wc.cell? ⟨gf,c*7,yO⟩=yP (yA q.1):=by
   rcases hown.2 with⟨_,h2⟩ | ⟨gf,IK,cur,h1,_,_,h5,h6,_⟩
   ·have h3:=hown.1;rw[h2] at h3;simp at h3;omega
   have e0:=hown.cells (g:=gf) (by rw[h1];rfl) (7*c) (yA cf.key) (aW4 tJ);rw[Addr.add_lit,Nat.zero_add,nW,Nat.mul_comm] at e0;exact⟨gf,IK,h1,h5,h6,e0⟩
  have vL:=((aB qT.o k9.o).block _ (yo.1 x6.o).1).trans x6.o;have c8m:=ch 8 vL;rw[hfe] at c8m;have dg:decide ((L.length:Int)≤(c:Int))=false:=by simp;omega
  have dg2:decide (L.length≤c)=false:=by simp;omega
  have bJW:(c:Int)<(L.length:Int):=by omega
  have kbc:=PU.o;have NK:(ByteArray.toList q.1 == ByteArray.toList q.1)=true:=by simp
  clear hat hp vL hown tJ nW;go_upto_region 48 with fail;go_big_quiet (fail);have AH:=yN (iC k9.o nq);have eF:Hid (Kept wc (wc.drewN nq)):=yN (iC (yk _ _) nq);clear c8m e0 kbc NK hfe;have PW:Hid ((wc.drewN nq).cell? ⟨eD,0,yO⟩=yP (yA (ev tk.1))∧(wc.drewN nq).cell? ⟨eD,1,yO⟩=yP (yD tk.1.isSome)):=yN ⟨eF.o.cell HW.o.1,eF.o.cell HW.o.2⟩;have bAN:=yN (eF.o.cell PU.o);generalize wc.drewN nq=wx at *;clear PU;have PU:=bAN;go_upto_region 51 with fail;have vL:=((aB qT.o AH.o).block _ (yo.1 x6.o).1).trans x6.o;have HSw:=yN (gJ.o.kept (aB qT.o AH.o));have x7:=ch 0 vL;have FN:=ch 1 vL;clear vL;rcases aAL.o with⟨he,iW,hL,hha⟩ | ⟨he,hi,iW,mJ,hmap⟩
  ·rw[he] at x7;clear he iW hL hha;go_wp2_with fail;go_big_quiet (fail);have eX:=yN (iC AH.o nq);clear x7 FN;generalize wx.drewN nq=wn at *;go_wp2_with fail;go_roundg (o.length-(j+1));case measure=>omega
   exact⟨j+1,c+1,by go_num,by go_num,by omega,by omega,ye _,PV,eX⟩
  rw[he] at x7;rw[hi] at FN;have E5:fQ h q.1=tk.1:=by rw[hmap,SE.o]
  have xZ:=yN mJ;have HMK:=yN E5;clear he hi iW mJ hmap E5;refine nX (fun W:World=>(W.cell? ⟨wU,0,yO⟩=yP (yE yH 0)∧W.cell? ⟨wU,1,yO⟩=yP (yE yI ((h:Nat):Int))∧W.cell? ⟨kb,0,yO⟩=yP (yA q.1)∧W.cell? ⟨eD,0,yO⟩=yP (yA (ev tk.1))∧W.cell? ⟨eD,1,yO⟩=yP (yD tk.1.isSome))) 13 ?_;have aP:=yN (gB wx);have eC:Hid (∀W,Kept wx W→(W.cell? ⟨wU,0,yO⟩=yP (yE yH 0)∧W.cell? ⟨wU,1,yO⟩=yP (yE yI ((h:Nat):Int))∧W.cell? ⟨kb,0,yO⟩=yP (yA q.1)∧W.cell? ⟨eD,0,yO⟩=yP (yA (ev tk.1))∧W.cell? ⟨eD,1,yO⟩=yP (yD tk.1.isSome))):=yN fun W hk=>⟨hk.cell x7,hk.cell FN,hk.cell PU.o,hk.cell PW.o.1,hk.cell PW.o.2⟩;clear x7 FN;generalize wx.drew=wd at *;have HC:=yN (eC.o _ aP.o);have tN:=yN (lD.o _ (FL.o.trans (Sm.kept (aB qT.o (aB AH.o aP.o)))));refine tH 0 HC ?_;refine tH 1 HC ?_;refine tH 2 HC ?_;refine tH 3 HC ?_;refine cL 4 HC.o (hw:=by kernel_rfl) (h:=?_);refine cL 5 HC.o (hw:=by kernel_rfl) (h:=?_);refine cL 6 HC.o (hw:=by kernel_rfl) (h:=?_);refine cL 7 HC.o (hw:=by kernel_rfl) (h:=?_);refine cL 8 HC.o (hw:=by kernel_rfl) (h:=?_);refine cL 10 HC.o (hw:=by kernel_rfl) (h:=?_);go_frame;refine oH 9 fun R hR=>?_;rw[if_pos (by kernel_rfl)];go_simp;refine(uY h q.1 tb wd (HSw.o.kept aP.o) ⟨mL,uS⟩ (by omega) xZ.o tN.o).mono ?_;rintro e we⟨rfl,hk⟩;rw[HMK.o];unfold j2;have lZ:=yN (aB aP.o hk);refine hR _ _ (eC.o _ lZ.o) ?_;clear hR R hk HC;have HC:=yN (eC.o _ lZ.o);have bAM:=aFN tk.1;refine cL 11 HC.o (hw:=by kernel_rfl) (h:=?_);refine tH 12 HC ?_;go_frame;refine dA ?_;go_wp2_with fail;go_roundg (o.length-(j+1));case measure=>omega
  exact⟨j+1,c+1,by go_num,by go_num,by omega,by omega,ye _,PV,yN (aB AH.o lZ.o)⟩
 have d1:decide ((j:Int)<(o.length:Int))=false:=by simp;omega
 have UI:c=L.length:=by
  rw[HC.o,List.take_of_length_le (by rw[HKE.o,List.length_map];omega),←HCA.o,List.length_map]
 subst UI;have aV:=yN (aB qT.o HK.o);have HSr:=yN (gJ.o.kept aV.o);have uE:=yN (FL.o.trans (Sm.kept aV.o));have c0:=lD.o _ uE.o;have hLl:L.length≤84:=by omega
 go_wp2_with fail;refine(aQ2 wr HSr.o).mono ?_;rintro e AV⟨xv,rfl,⟨lR,hv2⟩,hs,hm⟩;have bAO:=yN hs;have aL9:=yN ((Sm.kept aV.o).trans hm);clear hs hm c0;have c0:=lD.o _ (FL.o.trans aL9.o);go_wp2_with fail;refine(aGQ h b AV bAO.o).mono ?_;rintro e w14⟨xh,gh2,rfl,⟨e3,e4,c1h,c3h⟩,hs,hm⟩;have aMA:=yN (aL9.o.trans hm);have aAN:=yN (yn bG.o ((FL.o.trans aMA.o).below MN.o bG.o.size));have vL:=(aMA.o.same _ (yo.1 x6.o).1 HMV.o).trans x6.o;have x7:=ch 0 vL;have FN:=ch 1 vL;have c8m:=ch 8 vL;rw[HFN.o] at c8m;clear hs hm c0 vL;rcases aAL.o with⟨he,iW,hL,hha⟩ | ⟨he,hi,iW,mJ,hmap⟩
 ·rw[he] at x7;rw[hha] at c1h;have dp:((pn:Int) == 0)=true:=by rw[iW];rfl
  have dL:decide (0<(L.length:Int))=true:=by simp;omega
  clear he hha;go_wp2_with fail;go_ret;exact⟨rfl,aAN.o⟩
 rw[he] at x7;rw[hi] at FN;have dv:decide ((h:Int)≤xv.n)=true:=by simp;omega
 have dv2:decide (xv.n ≥ (h:Int))=true:=by simp;omega
 by_cases sQ:pn=0
 ·have dp:((pn:Int) == 0)=true:=by rw[sQ];rfl
  have dpn:((pn:Int) != 0)=false:=by rw[sQ];rfl
  have dL:((L.length:Int) == 0)=true:=by rw[iW sQ];rfl
  clear he hi iW mJ hmap sQ;go_wp2_with fail;go_big_quiet (fail);have HKF:=yN (iC aAN.o nq);go_wp2_with fail;go_ret;exact⟨rfl,HKF.o⟩
 have dp:((pn:Int) == 0)=false:=by simp;omega
 have dpn:((pn:Int) != 0)=true:=by simp;omega
 clear he hi iW mJ hmap;go_wp2_with fail;go_big_quiet (fail);have HKF:=yN (iC aAN.o nq);go_wp2_with fail;go_ret;exact⟨rfl,HKF.o⟩
end
end Go.Proofs.YtcldomgdkhenpaaGreat
