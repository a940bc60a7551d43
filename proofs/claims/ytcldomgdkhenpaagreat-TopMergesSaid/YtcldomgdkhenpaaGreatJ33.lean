/- The law TopMerges is proved: at every input the call returns true and the input reads as it did; no condition. -/
import Derived.Test.YtcldomgdkhenpaaGreatRows
import Derived.Test.YtcldomgdkhenpaaGreatJ32
import Derived.ProofKit
import Derived.OpenShut
import Derived.ShutString
import Derived.Lib.SmallJoins
import Derived.Deep.SlicePairs
import Derived.Deep.Strs
import Derived.SliceStrings
import Derived.SizedLaws
set_option linter.unusedVariables false
set_option maxRecDepth 1000000
set_option maxHeartbeats 40000000
open And renaming intro → yd
open List renaming append_nil → zi,length_take → ze,mem_map → zj
namespace Go.Proofs.YtcldomgdkhenpaaGreat
section
open Go.Proofs.Tryz
open Go.Proofs.Tryz renaming prog → yM
open Go.ChangeShapes Go.WideShapes Go.ChangeAt Go.RowKit Go.Joins Go.Deep Sip
variable {b0:Nat} {v:Value} {W:World}
theorem aR5{l:List Pr}{j:Nat}{u:Value}(h:(aK l)[j]?=some u):∃i q,l[i]?=some q∧((j=i*2∧u = .string q.1)∨(j=i*2+1∧u = .string q.2)):=by
 induction l generalizing j with
 | nil=>simp[aK] at h
 | cons p l ih=>
  match j with
  | 0=>simp[aK] at h;exact⟨0,p,rfl,.inl ⟨rfl,h.symm⟩⟩
  | 1=>simp[aK] at h;exact⟨0,p,rfl,.inr ⟨rfl,h.symm⟩⟩
  | j+2=>
   simp[aK] at h;obtain⟨i,q,h1,h2⟩:=ih h;exact⟨i+1,q,by simpa using h1,h2.imp (fun ⟨a,b⟩=>⟨by omega,b⟩) (fun ⟨a,b⟩=>⟨by omega,b⟩)⟩
theorem a2N:yM.cellsOf 52=2:=by kernel_rfl
theorem XZ:yM.cellsOf 9=1:=by kernel_rfl
theorem aIV(W:World):Rd W (.slice none 0 0) 0 []:=.inl ⟨none,0,rfl,by unfold maxLen;omega,rfl,rfl⟩
theorem YP(a:Int)(h:(Lit.int .u64 a).wf=true):∃x:UInt64,a=nu x:=by
 have hm:IntKind.u64.min=0:=rfl;have hx:IntKind.u64.max=18446744073709551615:=rfl;simp only[Lit.wf,Bool.and_eq_true,decide_eq_true_eq] at h;refine⟨UInt64.ofNat a.toNat,?_⟩;rw[yZ,UInt64.toNat_ofNat_of_lt' (by show a.toNat<18446744073709551616;omega)];omega
theorem aGR(a:Int)(h:(Lit.int .u8 a).wf=true):∃x:Nat,a=((x:Nat):Int)∧x<256:=by
 have hm:IntKind.u8.min=0:=rfl;have hx:IntKind.u8.max=255:=rfl;simp only[Lit.wf,Bool.and_eq_true,decide_eq_true_eq] at h;exact⟨a.toNat,by omega,by omega⟩
theorem WL{H:Type}{enc:TypeId × Value→H}{d:DataW H}{p:List MemPlace}
  (hv:Value.okWide yM W .any b0 27 v) (h:DataW.Trod enc yM W 0 (fun _=>true) true 27 v d p) :
  ∃l:List Pr,Rd W v l.length (aK l)∧l.length≤maxLen∧∀p∈l,p.1.size≤maxLen∧p.2.size≤maxLen:=by
 obtain⟨a0,len,cap,rfl⟩:=okWide_slice underlying27 hv;obtain⟨fuel,hf⟩:=h;rcases open_slice_pairs underlying27 underlying52 a2N rfl rfl XZ XZ hf with⟨hcs,_⟩ | ⟨a,len',cap',m,n,V0,V1,D0,D1,P0,P1,hcs,_,hl,hm,qV,_,hi⟩
 ·simp[Value.cells] at hcs;obtain⟨rfl,rfl,rfl⟩:=hcs;exact⟨[],aIV W,by simp[maxLen],by simp⟩
 simp[Value.cells] at hcs;obtain⟨rfl,rfl,rfl⟩:=hcs;simp only[if_true] at qV;subst qV;have hs:∀i,i<m→∃q:Pr,V0 i = .string q.1∧V1 i = .string q.2∧q.1.size≤maxLen∧q.2.size≤maxLen:=fun i oA=>by
  obtain⟨_,_,h0,h1⟩:=hi i oA;obtain⟨s0,e0,_,w0⟩:=DataW.trod_string underlying9 h0;obtain⟨s1,e1,_,w1⟩:=DataW.trod_string underlying9 h1;simp at e0 e1;exact⟨(s0,s1),e0,e1,w0,w1⟩
 obtain⟨Q,hQ⟩:∃Q:Nat→Pr,∀i,i<m→V0 i = .string (Q i).1∧V1 i = .string (Q i).2∧(Q i).1.size≤maxLen∧(Q i).2.size≤maxLen:=
  ⟨fun i=>if h:i<m then Classical.choose (hs i h) else (⟨#[]⟩,⟨#[]⟩),fun i oA=>by simp only[dif_pos oA];exact Classical.choose_spec (hs i oA)⟩
 refine⟨(List.range len).map Q,?_,by rw[List.length_map,List.length_range];omega,fun q hq=>?_⟩
 ·rw[List.length_map,List.length_range];by_cases h0:len=0
  ·subst h0;exact .inl ⟨some a,m,rfl,hm,rfl,rfl⟩
  obtain⟨b,off,spot⟩:=a;have hspot:spot=none:=by simpa[Addr.add] using World.cell?_spot (hi 0 (by omega)).1
  subst hspot;refine .inr ⟨b,off,m,rfl,hl,hm,by omega,fun j u hj=>?_⟩;obtain⟨i,q,h1,h2⟩:=aR5 hj;have OC:i<len:=by
   have:=(List.getElem?_eq_some_iff.1 h1).1
   rwa [List.length_map,List.length_range] at this
  have hq:Q i=q:=by
   rw[List.getElem?_map,List.getElem?_range OC] at h1;simpa using h1
  have hc:=hi i (by omega);have hQi:=hQ i (by omega);rcases h2 with⟨rfl,rfl⟩ | ⟨rfl,rfl⟩
  ·have:=hc.1;rw[hQi.1,hq,Addr.add_lit] at this;exact this
  have:=hc.2.1;rw[hQi.2.1,hq,Addr.add_lit] at this;exact this
 obtain⟨i,oA,rfl⟩:=zj.1 hq;rw[List.mem_range] at oA;have:=hQ i (by omega);exact⟨this.2.2.1,this.2.2.2⟩
theorem aQ3{H:Type}{enc:TypeId × Value→H}{d:DataW H}{p:List MemPlace}
  (hv:Value.okWide yM W .any b0 62 v) (h:DataW.Trod enc yM W 0 (fun _=>true) true 62 v d p) :
  ∃l:List Key,Rd W v l.length (l.map Value.string)∧l.length≤maxLen∧∀s∈l,s.size≤maxLen:=by
 obtain⟨a0,len,cap,rfl⟩:=okWide_slice underlying62 hv;obtain⟨fuel,hf⟩:=h;rcases open_strings underlying62 underlying9 XZ hf with⟨hcs,_⟩ | ⟨a,len',cap',ss,hcs,_,hl,hm,hz,_,hcell,hws⟩
 ·simp[Value.cells] at hcs;obtain⟨rfl,rfl,rfl⟩:=hcs;exact⟨[],aIV W,by simp[maxLen],by simp⟩
 simp[Value.cells] at hcs;obtain⟨rfl,rfl,rfl⟩:=hcs;simp only[if_true] at hz;have hlen:(ss.take len).length=len:=by rw[ze];omega
 refine⟨ss.take len,?_,by omega,fun s hs=>hws s (List.mem_of_mem_take hs)⟩;rw[hlen];by_cases h0:len=0
 ·subst h0;exact .inl ⟨some a,cap,rfl,hm,rfl,rfl⟩
 obtain⟨b,off,spot⟩:=a;have hspot:spot=none:=by simpa[Addr.add] using World.cell?_spot (hcell 0 (by omega))
 subst hspot;refine .inr ⟨b,off,cap,rfl,hl,hm,by omega,fun j u hj=>?_⟩;rw[List.getElem?_map] at hj;have nZ:j<len:=by
  cases e:(ss.take len)[j]? with
  | none=>rw[e] at hj;cases hj
  | some x=>have:=(List.getElem?_eq_some_iff.1 e).1;omega
 have hc:=hcell j (by omega);rw[List.getElem?_take_of_lt nZ] at hj;rw[Addr.add_lit,List.getD_eq_getElem?_getD] at hc;cases e:ss[j]? with
 | none=>rw[e] at hj;cases hj
 | some x=>
  rw[e] at hj hc;simp at hj hc;rw[←hj];exact hc
end
end Go.Proofs.YtcldomgdkhenpaaGreat
namespace Go.Proofs.YtcldomgdkhenpaaGreat.topMerges
section
open Go.ChangeShapes Go.WideShapes Go.ChangeAt Go.RowKit Go.Joins Sip
open Go.ChangeMaps (open_string shut_string)
theorem own:ownKnob Tryz.prog.godebug=none:=by kernel_rfl
theorem DF:laidOutB Tryz.prog=true:=by kernel_rfl
theorem a2O:Tryz.prog.cellsOf 24=2:=by kernel_rfl
theorem a2P:Tryz.prog.cellsOf 22=1:=by kernel_rfl
theorem bGU:Tryz.prog.cellsOf 5=1:=by kernel_rfl
theorem a2Q:Tryz.prog.cellsOf 26=3:=by kernel_rfl
theorem bGR:Tryz.prog.cellsOf 27=1:=by kernel_rfl
theorem bGS:Tryz.prog.cellsOf 62=1:=by kernel_rfl
theorem a43(os:Os)(started:os.Started)(H:Type)(enc:TypeId × Value→H) :
  ReturnsInHanded {} Tryz.checked os 4 .any (Rows.topMergesSpec.pre6 enc Tryz.prog Tryz.f4 Rows.topMergesRow.domain false) (Rows.topMergesSpec.post enc Tryz.prog Tryz.f4 false true false false):=by
 refine returnsInHanded_of_change_sized (C:=Tryz.checked) own started (by kernel_rfl) Tryz.func4
  (ChangeSpec.witness6 (enc:=enc) (C:=Tryz.checked) false ⟨#[],#[.int .u8 0,.agg #[.int .u64 0,.int .u64 0,.int .u64 0],.slice none 0 0,.slice none 0 0,.slice none 0 0,.slice none 0 0,.int .u8 0],[]⟩ 8 (by kernel_rfl) (by kernel_rfl) (by kernel_rfl) (by kernel_rfl)) ?_
 intro W base args ds gs before a68 hW _ bAP _;have hsz:(DataW.weightsEach Tryz.prog (Tryz.f4.params.toList++Rows.topMergesSpec.plain.varTypes Tryz.prog) (ds++gs)).all (·≤reachBytes)=true:=bAP;clear bAP;have hval:∀(j:Nat) t v,Tryz.f4.params[j]?=some t→args[j]?=some v→Value.okWide Tryz.prog W .any base t v:=a68;have A1:=hW;obtain⟨p,q,OM,hV,rfl,_,_⟩:=hW;have hA:DataW.TrodAll enc Tryz.prog W 0 (fun _=>true) true Tryz.f4.params.toList args.toList ds p:=OM;rw[Tryz.params4] at hA hval hsz;obtain⟨v0,vs0,d0,ds0,p0,q0,bGY,rfl,rfl,h0,r0⟩:=trodAll_cons hA;obtain⟨v1,vs1,d1,ds1,p1,q1,rfl,rfl,rfl,h1,r1⟩:=trodAll_cons r0;obtain⟨v2,vs2,d2,ds2,p2,q2,rfl,rfl,rfl,h2,r2⟩:=trodAll_cons r1;obtain⟨v3,vs3,d3,ds3,p3,q3,rfl,rfl,rfl,h3,r3⟩:=trodAll_cons r2;obtain⟨v4,vs4,d4,ds4,p4,q4,rfl,rfl,rfl,h4,r4⟩:=trodAll_cons r3;obtain⟨v5,vs5,d5,ds5,p5,q5,rfl,rfl,rfl,h5,r5⟩:=trodAll_cons r4;obtain⟨v6,vs6,d6,ds6,p6,q6,rfl,rfl,rfl,h6,r6⟩:=trodAll_cons r5;obtain⟨rfl,rfl,rfl⟩:=trodAll_nil r6;obtain rfl:args=#[v0,v1,v2,v3,v4,v5,v6]:=by cases args;simp_all
 obtain⟨rfl,rfl⟩:=trodVars_none hV;clear OM a68;simp only[zi] at A1;have hl0:∀x∈p0,x.block<W.heap.size:=fun x hx=>by simpa using A1.lt x (by simp[hx])
 have jG:∀x∈p1,x.block<W.heap.size:=fun x hx=>by simpa using A1.lt x (by simp[hx])
 have hl2:∀x∈p2,x.block<W.heap.size:=fun x hx=>by simpa using A1.lt x (by simp[hx])
 have hl3:∀x∈p3,x.block<W.heap.size:=fun x hx=>by simpa using A1.lt x (by simp[hx])
 have hl4:∀x∈p4,x.block<W.heap.size:=fun x hx=>by simpa using A1.lt x (by simp[hx])
 have hl5:∀x∈p5,x.block<W.heap.size:=fun x hx=>by simpa using A1.lt x (by simp[hx])
 have hl6:∀x∈p6,x.block<W.heap.size:=fun x hx=>by simpa using A1.lt x (by simp[hx])
 have h0k:=h0;have h1k:=h1;have h2k:=h2;have h3k:=h3;have h4k:=h4;have h5k:=h5;have h6k:=h6;obtain⟨a0,rfl,hd0,iW,wa0⟩:=open_int Tryz.underlying5 (hval 0 5 v0 rfl rfl) h0;obtain⟨a6,rfl,xY,TF,wa6⟩:=open_int Tryz.underlying5 (hval 6 5 v6 rfl rfl) h6;have fin:∀(W':World),Below W.heap.size W W'→∀e:Ending,e = .returned (.bool true)→∃v,e=Ending.returned v∧Rows.topMergesSpec.post enc Tryz.checked.prog Tryz.f4 false true false false W _ v W':=fun W' hg e he=>
  ⟨_,he,_,_,_,[],(p0++(p1++(p2++(p3++(p4++(p5++(p6 ++ []))))))),[],A1,trodAll_mk1 (shut_bool Tryz.underlying4 true),(trodAll_cons_mk (Below.trod DF (by kernel_rfl) (of_decide_eq_true (by kernel_rfl)) h0k hg hl0) (trodAll_cons_mk (Below.trod DF (by kernel_rfl) (of_decide_eq_true (by kernel_rfl)) h1k hg jG) (trodAll_cons_mk (Below.trod DF (by kernel_rfl) (of_decide_eq_true (by kernel_rfl)) h2k hg hl2) (trodAll_cons_mk (Below.trod DF (by kernel_rfl) (of_decide_eq_true (by kernel_rfl)) h3k hg hl3) (trodAll_cons_mk (Below.trod DF (by kernel_rfl) (of_decide_eq_true (by kernel_rfl)) h4k hg hl4) (trodAll_cons_mk (Below.trod DF (by kernel_rfl) (of_decide_eq_true (by kernel_rfl)) h5k hg hl5) (trodAll_cons_mk (Below.trod DF (by kernel_rfl) (of_decide_eq_true (by kernel_rfl)) h6k hg hl6) trodAll_mk0))))))),rfl,hg.frame _,fun h=>by cases h⟩
 obtain⟨kd,rfl,nB⟩:=aGR a0 wa0;obtain⟨aN,rfl,aL4⟩:=aGR a6 wa6;obtain⟨cs1,rfl,bAQ⟩:=okWide_struct Tryz.underlying26 (hval 1 26 v1 rfl rfl);obtain⟨c10,c11,c12,rfl⟩:=array3 (bAQ.trans a2Q);obtain⟨bGZ,uR⟩:=h1;obtain⟨y0,y1,m0,hx0,_,k0,k1⟩:=trod_struct2 Tryz.underlying26 uR;obtain⟨z0,z1,m1,hx1,_,j0,j1⟩:=trod_struct2 Tryz.underlying24 k0;obtain⟨jV,e10,_,bAR⟩:=DataW.trod_int Tryz.underlying22 j0;obtain⟨a11,e11,_,bAS⟩:=DataW.trod_int Tryz.underlying22 j1;obtain⟨a12,e12,_,bAT⟩:=DataW.trod_int Tryz.underlying22 k1;simp[Value.cells,a2O,a2P] at e10 e11 e12;subst e10 e11 e12;obtain⟨x0,rfl⟩:=YP jV bAR;obtain⟨x1,rfl⟩:=YP a11 bAS;obtain⟨x2,rfl⟩:=YP a12 bAT;obtain⟨lb,hb1,hb2,hb3⟩:=WL (hval 2 27 v2 rfl rfl) h2;obtain⟨lo,gH,cI,rQ⟩:=WL (hval 3 27 v3 rfl rfl) h3;obtain⟨lt,p9,wO,AR⟩:=WL (hval 4 27 v4 rfl rfl) h4;obtain⟨lg,hg1,hg2,hg3⟩:=aQ3 (hval 5 62 v5 rfl rfl) h5;exact(aT8 kd x0 x1 x2 lb lo lt lg v2 v3 v4 v5 aN W nB aL4 hb1 hb2 hb3 gH cI rQ p9 wO AR hg1 hg2 hg3).mono fun e W' ⟨he,hg⟩=>fin W' hg e he
theorem a47:joinedFacts Tryz.pinned.checked.prog 4 Tryz.f4 Rows.topMergesSpec Rows.topMergesRow=true:=by
 unfold joinedFacts;simp only[Bool.and_eq_true]
 repeat' apply yd
 all_goals (as_aux_lemma=>kernel_rfl)
theorem bAU:Rows.topMergesRow.holds Tryz.pinned (OpenSpec.ofChange Rows.topMergesSpec):=
 OpenClaim.holds_of_wide 4 Tryz.f4 rfl rfl rfl rfl rfl rfl rfl ⟨rfl,rfl,rfl,rfl,rfl⟩ rfl rfl rfl rfl rfl (by kernel_rfl) Tryz.func4 a47
  (of_decide_eq_true (by kernel_rfl)) (by unfold Func.isWrapper;first | (rw[if_pos (by decide +kernel)];kernel_rfl) | (rw[if_neg (by decide +kernel)];exact⟨rfl,rfl⟩))
  (fun os started H enc _=>a43 os started H enc)
theorem proved:Rows.TopMergesSaid:=
 bAU
#print axioms proved
end
end Go.Proofs.YtcldomgdkhenpaaGreat.topMerges
