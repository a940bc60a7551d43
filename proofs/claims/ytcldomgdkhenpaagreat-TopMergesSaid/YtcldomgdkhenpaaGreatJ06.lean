/- Lemmas. -/
import Derived.Test.YtcldomgdkhenpaaGreatProg
import Derived.Test.YtcldomgdkhenpaaGreatJ01
import Derived.Maps.OwnSet
set_option linter.unusedVariables false
set_option maxRecDepth 1000000
set_option maxHeartbeats 40000000
open Go.Proofs.Tryz
open Go.Proofs.Tryz renaming prog → yM
open Go.RowKit.Below renaming refl → yk
open Go.World renaming cell?_of_block → zn
open Nat renaming le_of_eq → yh,le_refl → ye,le_trans → yf,lt_of_lt_of_le → yi
open Go.RowKit
namespace Go.Proofs.YtcldomgdkhenpaaGreat
section
open Go.Maps (Keyed)
variable {w':World}
def zL (v:Value):Option (DataW Value × List MemPlace):=some (.held v,[])
def MF {α:Type} (k:TypeId) (g:α→Lit) (w:World) (b m:Nat) (F:α→Option Value):Prop:=
 ∃ D:DataW Value,w.ownsMap yM k zL b m D∧Maps.size D=m∧∀ i,Maps.has D (g i)=(F i).isSome∧∀ z,D.atKey (g i) (.held z) = .held ((F i).getD z)
variable {α:Type} {k:TypeId} {g:α→Lit} {w:World} {b m:Nat} {F:α→Option Value}
theorem MF.made (k:TypeId) (g:α→Lit) (w:World):MF k g (w.alloc (.map #[] 0)) w.heap.size 0 (fun _=>none):=
 ⟨.map [],World.ownsMap_made w _ _ _,rfl,fun i=>⟨rfl,fun z=>rfl⟩⟩
theorem MF.lt (h:MF k g w b m F):b<w.heap.size:=let ⟨_,h,_⟩:=h;h.lt
theorem MF.stay (h:MF k g w b m F) (hb:w'.heap[b]?=w.heap[b]?):MF k g w' b m F:=by
 obtain⟨D,⟨es,clock,h1,h2⟩,h3⟩:=h;exact⟨D,⟨es,clock,hb.trans h1,h2⟩,h3⟩
theorem MF.kept (h:MF k g w b m F) (hk:Kept w w'):MF k g w' b m F:=h.stay (hk.block b h.lt)
theorem MF.drew (h:MF k g w b m F):MF k g w.drew b m F:=h.stay rfl
theorem MF.heap (h:MF k g w b m F):∃ es clock,w.heap[b]?=some (.map es clock):=by
 obtain⟨D,⟨es,clock,h1,h2⟩,h3⟩:=h;exact⟨es,clock,h1⟩
theorem MF.look {t e:TypeId} (h:MF k g w b m F) (K:Keyed yM k) (ht:yM.underlying t=some (.map k e)) {z:Value} (hz:∀ w,(zeroValue e).run yM w = .ok z w) {key:Value} {i:α} (hkey:keyOf yM k key=some (g i)) :
  (Instr.lookup t (.map (some b)) key true).run yM w = .ok (.tuple #[(F i).getD z,.bool (F i).isSome]) w∧(Instr.lookup t (.map (some b)) key false).run yM w = .ok ((F i).getD z) w:=by
 obtain⟨D,h1,h2,h3⟩:=h;obtain⟨e1,e2⟩:=h3 i;constructor
 ·obtain⟨v,ps,hr,DW⟩:=h1.look_ok K ht (hz w) (zd:=.held z) (zp:=[]) rfl hkey;rw [hr,e1];rw [e2] at DW;simp only [zL,Option.some.injEq,Prod.mk.injEq,DataW.held.injEq] at DW;rw [DW.1]
 obtain⟨v,ps,hr,DW⟩:=h1.lookup K ht (hz w) (zd:=.held z) (zp:=[]) rfl hkey;rw [hr];rw [e2] at DW;simp only [zL,Option.some.injEq,Prod.mk.injEq,DataW.held.injEq] at DW;rw [DW.1]
structure BK (b:Nat) (w w':World):Prop where
 os:w'.os=w.os
 tape:w'.tape=w.tape
 output:w'.output=w.output
 size:w'.heap.size=w.heap.size
 same:∀ i,i≠b→w'.heap[i]?=w.heap[i]?
 cell:∀ p v,w.cell? p=some v→w'.cell? p=some v
theorem aGT (h:w.mapTurned w' b):BK b w w':=by
 obtain⟨es,clock,es',clock',hb,rfl⟩:=h;refine⟨rfl,rfl,rfl,by simp [ChangeMaps.setBlock],fun i hi=>ChangeMaps.heap_setBlock_other hb _ hi,fun p v hp=>?_⟩;have hne:p.block≠b:=by
  intro e;unfold World.cell? at hp;rw [e,hb] at hp;cases hp
 exact (zn (ChangeMaps.heap_setBlock_other hb _ hne)).trans hp
theorem BK.below {B:Nat} (h:BK b w w') (hB:B≤b):Below B w w':=⟨h.os,h.tape,h.output,yh h.size.symm,fun i hi=>h.same i (by omega)⟩
theorem MF.put {t e:TypeId} [DecidableEq α] (hg:∀ i j,g i=g j→i=j) (h:MF k g w b m F) (K:Keyed yM k) (ht:yM.underlying t=some (.map k e)) (hm:m<maxLen) {key:Value} {i:α} (hkey:keyOf yM k key=some (g i)) (v:Value) :
  ∃ w',(Instr.mapUpdate t (.map (some b)) key v).run yM w = .ok () w'∧MF k g w' b (if (F i).isSome then m else m+1) (fun j=>if j=i then some v else F j)∧BK b w w':=by
 obtain⟨D,h1,h2,h3⟩:=h;have hD:=h1.tidy K;obtain⟨w',hr,ho,ht'⟩:=h1.store K ht hm hkey (d:=.held v) (ps:=[]) rfl;have hs:Maps.size (D.put (g i) (.held v))=if (F i).isSome then m else m+1:=by
  rw [Maps.size_put hD,(h3 i).1,h2]
 refine⟨w',hr,⟨D.put (g i) (.held v),?_,hs,fun j=>?_⟩,aGT ht'⟩
 ·obtain⟨es,clock,q1,q2,q3,q4⟩:=ho;refine⟨es,clock,q1,q2,?_,q4⟩;have:=(show w'.ownsMap yM k zL b es.size (D.put (g i) (.held v)) from⟨es,clock,q1,q2,ye _,q4⟩);rw [← hs,q4];simp [Maps.size,length_sorted]
 by_cases e:j=i
 ·subst e;show _=(if j=j then some v else F j).isSome∧∀ z,_=DataW.held ((if j=j then some v else F j).getD z);rw [if_pos rfl];exact⟨Maps.has_put_same hD.isMap (K.key hkey) _,fun z=>Maps.atKey_put_same hD.isMap (K.key hkey) _ _⟩
 have hne:g j≠g i:=fun e2=>e (hg _ _ e2);show _=(if j=i then some v else F j).isSome∧∀ z,_=DataW.held ((if j=i then some v else F j).getD z);rw [if_neg e];exact⟨(Maps.has_put_other hne _).trans (h3 j).1,fun z=>(Maps.atKey_put_other hne _ _).trans ((h3 j).2 z)⟩
theorem MF.len {t e:TypeId} (h:MF k g w b m F) (ht:yM.underlying t=some (.map k e)) (ty:TypeId):(Builtin.len_ #[t] ty #[.map (some b)]).run yM w = .ok (.int .i64 m) w:=by
 obtain⟨D,h1,h2,h3⟩:=h;rw [h1.len ht,h2]
theorem MF.funext {F':α→Option Value} (h:MF k g w b m F) (e:∀ i,F i=F' i):MF k g w b m F':=by
 rwa [show F=F' from _root_.funext e] at h
def gu (i:Nat):Lit:=.int .u32 i
theorem KO (i j:Nat) (h:gu i=gu j):i=j:=by
 unfold gu at h;injection h with _ h
 omega
theorem u7 {i:Nat} (hi:i<4294967296):keyOf yM 35 (.int .u32 i)=some (gu i):=Maps.keyOf_int_mk underlying35 (by simp [Lit.wf,IntKind.min,IntKind.max,IntKind.bits,IntKind.signed];omega)
theorem oP:Keyed yM 35:=Maps.int_keyed underlying35
def gs (s:Key):Lit:=.string s.data.toList
theorem XB (i j:Key) (h:gs i=gs j):i=j:=by
 unfold gs at h;injection h with h
 exact nR h
theorem WN {s:Key} (hs:s.size≤maxLen):keyOf yM 9 (.string s)=some (gs s):=WideMaps.keyOf_string_mk underlying9 hs
theorem JU:Keyed yM 9:=Maps.string_keyed underlying9
end
section
open Go.Maps (Keyed)
variable {w' a:World} {v:Value} {S:Nat→Prop}
theorem aSM {k:TypeId} {w:World} {b n:Nat} {D:DataW Value} (h:w.ownsMap yM k zL b n D):w.ownsMap yM k zL b (Maps.size D) D:=by
 obtain⟨es,clock,h1,h2,h3,h4⟩:=h;refine⟨es,clock,h1,h2,?_,h4⟩;rw [h4];simp [Maps.size,length_sorted]
def RG {α:Type} (k:TypeId) (g:α→Lit) (w:World) (b r m:Nat) (F:α→Option Value) (lf:α→Bool) (cnt:Nat):Prop:=
 ∃ (D:DataW Value) (left:Lit→Bool) (n:Nat),w.ranges yM k zL b r n D left cnt∧Maps.size D=m∧(∀ i,Maps.has D (g i)=(F i).isSome∧∀ z,D.atKey (g i) (.held z) = .held ((F i).getD z))∧∀ i,left (g i)=lf i
variable {α:Type} {k:TypeId} {g:α→Lit} {w:World} {b r m cnt:Nat} {F:α→Option Value} {lf:α→Bool}
theorem RG.mf (h:RG k g w b r m F lf cnt):MF k g w b m F:=by
 obtain⟨D,left,n,h1,h2,h3,h4⟩:=h;have:=aSM h1.owns;rw [h2] at this;exact⟨D,this,h2,h3⟩
theorem RG.lt (h:RG k g w b r m F lf cnt):r<w.heap.size:=by obtain⟨D,left,n,h1,_⟩:=h;exact h1.lt
theorem RG.ne (h:RG k g w b r m F lf cnt):r≠b:=by obtain⟨D,left,n,h1,_⟩:=h;exact h1.ne
theorem RG.stay (h:RG k g w b r m F lf cnt) (hb:w'.heap[b]?=w.heap[b]?) (hr:w'.heap[r]?=w.heap[r]?):RG k g w' b r m F lf cnt:=by
 obtain⟨D,left,n,⟨es,clock,since,seen,c0,e1,e2,e3,e4,e5,e6⟩,h2⟩:=h;exact⟨D,left,n,⟨es,clock,since,seen,c0,hb.trans e1,e2,e3,e4,hr.trans e5,e6⟩,h2⟩
theorem RG.kept (h:RG k g w b r m F lf cnt) (hk:Kept w w'):RG k g w' b r m F lf cnt:=h.stay (hk.block b h.mf.lt) (hk.block r h.lt)
theorem RG.iter (h:RG k g w b r m F lf cnt):∃ a s c d,w.heap[r]?=some (.mapIter a s c d):=by
 obtain⟨D,left,n,⟨es,clock,since,seen,c0,e1,e2,e3,e4,e5,e6⟩,h2⟩:=h;exact⟨_,_,_,_,e5⟩
theorem MF.range {t e:TypeId} (h:MF k g w b m F) (K:Keyed yM k) (ht:yM.underlying t=some (.map k e)) :
  ∃ w',(Instr.range t (.map (some b))).run yM w = .ok (.pointer (some ⟨w.heap.size,0,none⟩)) w'∧RG k g w' b w.heap.size m F (fun i=>(F i).isSome) m∧Kept w w'∧w'.heap.size=w.heap.size+1:=by
 obtain⟨D,h1,h2,h3⟩:=h;obtain⟨w',e1,e2,e3,e4⟩:=h1.range K ht;rw [h2] at e2;exact⟨w',e1,⟨D,_,_,e2,h2,h3,fun i=>(h3 i).1⟩,Below.grown (yk _ w) e3 (ye _) (fun g hg=>by cases hg),e4⟩
theorem aI3 (hg:∀ i j,g i=g j→i=j) {i:α} (hk:WideAt.IsKeyLit (g i)) (j:α) [Decidable (j=i)]:(!(g j).sameKey (g i)) = !decide (j=i):=by
 by_cases e:j=i
 ·subst e;rw [WideAt.sameKey_self hk];simp
 rw [Maps.sameKey_ne (fun e2=>e (hg _ _ e2))];simp [e]
theorem a5G {F:Option Value} (h:∀ z,(DataW.held v:DataW Value) = .held (F.getD z)):F=some v:=by
 cases F with
 | some u=>have:=h v;simp at this;rw [this]
 | none=>
  have h1:=h (.bool true);have h2:=h (.bool false);simp at h1 h2;rw [h1] at h2;cases h2
theorem a3E {y:DataW Value × List MemPlace} (h:zL v=some y):y.1 = .held v:=by
 simp only [zL,Option.some.injEq] at h;rw [← h]
theorem RG.aIG [DecidableEq α] (hg:∀ i j,g i=g j→i=j) (K:Keyed yM k) (mk:α→Value) (inv:∀ key kl,keyOf yM k key=some kl→∃ i,key=mk i∧kl=g i) (h:RG k g w b r m F lf cnt) (ty:TypeId) :
  (cnt=0∧(∀ i,lf i=false)∧(Instr.next (.pointer (some ⟨r,0,none⟩)) false ty).run yM w = .ok (.tuple #[.bool false]) w)∨
  ∃ i v w' cnt',keyOf yM k (mk i)=some (g i)∧lf i=true∧F i=some v∧(Instr.next (.pointer (some ⟨r,0,none⟩)) false ty).run yM w = .ok (.tuple #[.bool true,mk i,v]) w'∧
   RG k g w' b r m F (fun j=>lf j && !decide (j=i)) cnt'∧cnt'<cnt∧w.grownBy w' (some r)∧w'.heap.size=w.heap.size∧(Instr.entry (.pointer (some ⟨r,0,none⟩))).run yM w' = .ok (.tuple #[mk i,v]) w':=by
 obtain⟨D,left,n,h1,h2,h3,h4⟩:=h;rcases h1.next K ty with ⟨h0,hl,hrun⟩ | ⟨key,v,kl,y,w',cnt',hkey,hlk,hv,hat,hrun,hrg,hlt,hgr,hsz,hen⟩
 ·exact .inl ⟨h0,fun i=>by rw [← h4 i];exact hl _,hrun⟩
 obtain⟨i,rfl,rfl⟩:=inv key kl hkey;have hv':=a3E hv;refine .inr ⟨i,v,w',cnt',hkey,by rw [← h4 i];exact hlk,a5G fun z=>?_,hrun,⟨D,_,n,hrg,h2,h3,fun j=>?_⟩,hlt,hgr,hsz,hen⟩;·rw [← (h3 i).2 z,hat,hv']
 show (left (g j) && !(g j).sameKey (g i))=_;rw [h4 j,aI3 hg (K.key hkey)]
theorem a0U (key:Value) (kl:Lit) (h:keyOf yM 35 key=some kl):∃ i:Nat,key = .int .u32 i∧kl=gu i:=by
 obtain⟨x,rfl,rfl,hw⟩:=Maps.keyOf_int_inv underlying35 h;have hw':0≤x∧x<4294967296:=by
  simp [Lit.wf,IntKind.min,IntKind.max,IntKind.bits,IntKind.signed] at hw;omega
 refine⟨x.toNat,?_,?_⟩ <;> simp [gu] <;> omega
theorem a0V (key:Value) (kl:Lit) (h:keyOf yM 9 key=some kl):∃ i:Key,key = .string i∧kl=gs i:=by
 cases key <;> simp [keyOf,underlying9,mapKey] at h;exact⟨_,rfl,h.2.symm⟩
theorem RG.XM {F:Nat→Option Value} {lf:Nat→Bool} (h:RG 35 gu w b r m F lf cnt) (ty:TypeId) :
  (cnt=0∧(∀ i,lf i=false)∧(Instr.next (.pointer (some ⟨r,0,none⟩)) false ty).run yM w = .ok (.tuple #[.bool false]) w)∨
  ∃ i v w' cnt',lf i=true∧F i=some v∧(Instr.next (.pointer (some ⟨r,0,none⟩)) false ty).run yM w = .ok (.tuple #[.bool true,.int .u32 (i:Nat),v]) w'∧
   RG 35 gu w' b r m F (fun j=>lf j && !decide (j=i)) cnt'∧cnt'<cnt∧w.grownBy w' (some r)∧w'.heap.size=w.heap.size∧(Instr.entry (.pointer (some ⟨r,0,none⟩))).run yM w' = .ok (.tuple #[.int .u32 (i:Nat),v]) w':=by
 rcases h.aIG KO oP (fun i=>.int .u32 (i:Nat)) a0U ty with h | ⟨i,v,w',cnt',_,h⟩
 ·exact .inl h
 exact .inr ⟨i,v,w',cnt',h⟩
theorem RG.a3F {F:Key→Option Value} {lf:Key→Bool} (h:RG 9 gs w b r m F lf cnt) (ty:TypeId) :
  (cnt=0∧(∀ i,lf i=false)∧(Instr.next (.pointer (some ⟨r,0,none⟩)) false ty).run yM w = .ok (.tuple #[.bool false]) w)∨
  ∃ i v w' cnt',lf i=true∧F i=some v∧(Instr.next (.pointer (some ⟨r,0,none⟩)) false ty).run yM w = .ok (.tuple #[.bool true,.string i,v]) w'∧
   RG 9 gs w' b r m F (fun j=>lf j && !decide (j=i)) cnt'∧cnt'<cnt∧w.grownBy w' (some r)∧w'.heap.size=w.heap.size∧(Instr.entry (.pointer (some ⟨r,0,none⟩))).run yM w' = .ok (.tuple #[.string i,v]) w':=by
 rcases h.aIG XB JU (fun i=>.string i) a0V ty with h | ⟨i,v,w',cnt',_,h⟩
 ·exact .inl h
 exact .inr ⟨i,v,w',cnt',h⟩
theorem RG.drop [DecidableEq α] {t e:TypeId} (hg:∀ i j,g i=g j→i=j) (h:RG k g w b r m F lf cnt) (K:Keyed yM k) (ht:yM.underlying t=some (.map k e)) {key:Value} {i:α} (hkey:keyOf yM k key=some (g i)) (ty:TypeId) :
  ∃ w' cnt',(Builtin.delete_ #[t,k] ty #[.map (some b),key]).run yM w = .ok (.tuple #[]) w'∧RG k g w' b r (if (F i).isSome then m-1 else m) (fun j=>if j=i then none else F j) (fun j=>lf j && !decide (j=i)) cnt'∧cnt'≤cnt∧BK b w w':=by
 obtain⟨D,left,n,h1,h2,h3,h4⟩:=h;obtain⟨w',cnt',hr,hrg,hle,kZ⟩:=h1.drop K ht hkey ty;have hD:=h1.owns.tidy K;have hs:=Maps.size_del (k:=g i) hD;rw [(h3 i).1,h2] at hs;refine⟨w',cnt',hr,⟨_,_,n,hrg,?_,fun j=>?_,fun j=>?_⟩,hle,aGT kZ⟩;·split at hs <;> rename_i hq <;> simp [hq] <;> omega
 ·by_cases e:j=i
  ·subst e;show _=(if j=j then none else F j).isSome∧∀ z,_=DataW.held ((if j=j then none else F j).getD z);rw [if_pos rfl];exact⟨Maps.has_del_same,fun z=>Maps.atKey_del_same _⟩
  show _=(if j=i then none else F j).isSome∧∀ z,_=DataW.held ((if j=i then none else F j).getD z);rw [if_neg e];have hne:g j≠g i:=fun e2=>e (hg _ _ e2);exact⟨(Maps.has_del_other hne).trans (h3 j).1,fun z=>(Maps.atKey_del_other hne _).trans ((h3 j).2 z)⟩
 show (left (g j) && !(g j).sameKey (g i))=_;rw [h4 j,aI3 hg (K.key hkey)]
structure Sm (S:Nat→Prop) (w w':World):Prop where
 os:w'.os=w.os
 tape:w'.tape=w.tape
 output:w'.output=w.output
 size:w.heap.size≤w'.heap.size
 same:∀ i,i<w.heap.size→¬ S i→w'.heap[i]?=w.heap[i]?
theorem Sm.kept {w:World} (h:Kept w w'):Sm S w w':=⟨h.os,h.tape,h.output,h.size,fun i hi _=>h.block i hi⟩
theorem Sm.trans {S:Nat→Prop} {a b c:World} (h:Sm S a b) (g:Sm S b c):Sm S a c:=
 ⟨g.os.trans h.os,g.tape.trans h.tape,g.output.trans h.output,yf h.size g.size,fun i hi hs=>(g.same i (yi hi h.size) hs).trans (h.same i hi hs)⟩
theorem Sm.more {T:Nat→Prop} {b:World} (h:Sm S a b) (hs:∀ i,S i→T i):Sm T a b:=⟨h.os,h.tape,h.output,h.size,fun i hi ht=>h.same i hi fun s=>ht (hs i s)⟩
theorem Sm.below {B:Nat} {b:World} (h:Sm S a b) (hs:∀ i,S i→B≤i) (hB:B≤a.heap.size):Below B a b:=⟨h.os,h.tape,h.output,h.size,fun i hi=>h.same i (by omega) fun s=>by have:=hs i s;omega⟩
theorem Sm.LG {b:Nat} {w:World} (h:BK b w w'):Sm (fun i=>i=b) w w':=⟨h.os,h.tape,h.output,yh h.size.symm,fun i _ hi=>h.same i hi⟩
theorem Sm.cell {S:Nat→Prop} {w w':World} (h:Sm S w w') {p:Addr} {v:Value} (hv:w.cell? p=some v) (hp:¬ S p.block):w'.cell? p=some v:=(zn (h.same _ (mU hv) hp)).trans hv
end
end Go.Proofs.YtcldomgdkhenpaaGreat
