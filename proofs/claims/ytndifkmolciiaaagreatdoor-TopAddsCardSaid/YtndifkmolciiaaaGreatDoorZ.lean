/- A part of the proof that edges that are added come, when all that goes comes (TopAdds), for every input: no condition. -/
import Derived.Test.YtndifkmolciiaaaGreatDoorX05
set_option linter.all false
set_option maxRecDepth 8000
set_option maxHeartbeats 1000000
open Go.OpenSpec renaming ofChange->alQ
open Go.Proofs.Tryz renaming checked->alP,f6->am2,prog->aaG
open Go.Value renaming okWide->alj
namespace Go.Proofs.YtndifkmolciiaaaGreatDoor.doneTopAdds
open Go Go.Nx Go.ChangeShapes Go.WideShapes Go.ChangeAt Go.RowKit
theorem law(g:Gr)(r:mZ)(l:List LA):∃H',Nx.Call aaG 6 [.agg (bQ g),.agg (fU r),.c (.aj (l.map cM))] [] (.c (B true)) H':=by obtain⟨H',h⟩:=ap1 hA g r l;exact⟨H',He abU h⟩
set_option maxRecDepth 100000 in
theorem lifted(os:Os)(started:os.Started)(H:Type)(enc:TypeId×Value->H):
  ReturnsInHanded {} alP os 6 .any (fun w args=>(Rows.topAddsSpec.pre enc aaG am2 Rows.topAddsRow.domain false w args/\laidMetH aaG laidL w)/\sizedMet enc aaG am2 (alQ Rows.topAddsSpec) false w args)
   (Rows.topAddsSpec.post enc aaG am2 false true false false):=by
 refine returnsInHanded_of_change_and (C:=alP) (X:=fun w _=>laidMetH aaG laidL w) (fun _ _ _ hh h=>h.of_heap hh) own started (by kernel_rfl) Tryz.func6
  (ChangeSpec.witness_shaped (enc:=enc) (C:=alP) (os:=os) (X:=fun w _=>laidMetH aaG laidL w) false (laidWorld os) #[.agg #[.int .i64 0,.slice none 0 0],.agg #[.int .i64 0,.int .i64 0,.int .i64 0,.int .i64 0,.int .i64 0],.slice none 0 0] 8 (laidWorld_os os)
   (laidWorld_shaped os _) (by kernel_rfl) (by kernel_rfl) (by kernel_rfl) (laidWorld_met os _)) ?_
 intro W base args ds gs before hval0 hW hc _ hL _
 have hval:∀(j:Nat) t v,am2.params[j]?=some t->args[j]?=some v->alj aaG W .any base t v:=hval0
 have hW':=hW
 obtain⟨p,q,hA0,hV,rfl,_,_⟩:=hW
 have hA:DataW.TrodAll enc aaG W 0 (fun _=>true) true am2.params.toList args.toList ds p:=hA0
 rw[Tryz.params6]at hA hval
 obtain⟨v0,vs0,d0,ds0,p0,q0,hargs,rfl,rfl,h0,r0⟩:=trodAll_cons hA
 obtain⟨v1,vs1,d1,ds1,p1,q1,rfl,rfl,rfl,h1,r1⟩:=trodAll_cons r0
 obtain⟨v2,vs2,d2,ds2,p2,q2,rfl,rfl,rfl,h2,r2⟩:=trodAll_cons r1
 obtain⟨rfl,rfl,rfl⟩:=trodAll_nil r2
 obtain rfl:args= #[v0,v1,v2]:=by cases args;simp_all
 obtain⟨rfl,rfl⟩:=trodVars_none hV
 have lt0:∀x∈p0,x.block<W.heap.size:=by obtain⟨m,hm⟩:=h0;exact DataW.trod_lt m _ _ _ hm
 obtain⟨a0,o0,c0⟩:=QO YC (Ld Tryz.underlying24 (hval 0 24 v0 rfl rfl)) h0
 have lt1:∀x∈p1,x.block<W.heap.size:=by obtain⟨m,hm⟩:=h1;exact DataW.trod_lt m _ _ _ hm
 obtain⟨a1,o1,c1⟩:=QO agn (Ld Tryz.underlying26 (hval 1 26 v1 rfl rfl)) h1
 have lt2:∀x∈p2,x.block<W.heap.size:=by obtain⟨m,hm⟩:=h2;exact DataW.trod_lt m _ _ _ hm
 obtain⟨a2,o2,c2⟩:=adM TA (acA Tryz.underlying27 (hval 2 27 v2 rfl rfl)) h2
 clear hA0 hval0
 obtain⟨H',hN⟩:=law a0 a1 a2
 have hcv:bT (az.of W) [.agg (bQ a0),.agg (fU a1),.c (.aj (a2.map cM))] #[v0,v1,v2].toList:=by
  simp only[bT]
  exact⟨_,_,rfl,c0,⟨_,_,rfl,c1,⟨_,_,rfl,c2,rfl⟩⟩⟩
 refine(WW hN (roms hL) hcv).mono fun e W' ⟨he,bel⟩=>?_
 subst he
 exact⟨_,rfl,_,_,_,[],_,[],hW',trodAll_mk1 (shut_bool ame _),(trodAll_cons_mk (Below.trod laidOut (by kernel_rfl) (of_decide_eq_true (by kernel_rfl)) h0 bel lt0) (trodAll_cons_mk (Below.trod laidOut (by kernel_rfl) (of_decide_eq_true (by kernel_rfl)) h1 bel lt1) (trodAll_cons_mk (Below.trod laidOut (by kernel_rfl) (of_decide_eq_true (by kernel_rfl)) h2 bel lt2) trodAll_mk0))),rfl,bel.frame _,fun h=>by cases h⟩
theorem j1:(Rows.topAddsRow.inPlace==aaG.inPlace 6)=true:=by kernel_rfl
theorem j2:(Rows.topAddsRow.unfollowed==aaG.unfollowed 6)=true:=by kernel_rfl
theorem j3:(Rows.topAddsRow.recurses==aaG.recurses 6)=true:=by kernel_rfl
theorem j4:(Rows.topAddsRow.named==aaG.varsNamed 6)=true:=by kernel_rfl
theorem facts:joinedFacts aaG 6 am2 Rows.topAddsSpec Rows.topAddsRow=true:=by unfold joinedFacts;rw[j1,j2,j3,j4,laidOut];kernel_rfl
theorem row:Rows.TopAddsSaid:=
 OpenClaim.holds_of_wide 6 am2 rfl rfl rfl rfl rfl rfl rfl ⟨rfl,rfl,rfl,rfl,rfl⟩ rfl rfl rfl rfl rfl (by kernel_rfl) Tryz.func6 facts
  (of_decide_eq_true (by kernel_rfl)) (by unfold Func.isWrapper;first|(rw[if_pos (by decide+kernel)];kernel_rfl)|(rw[if_neg (by decide+kernel)];exact⟨rfl,rfl⟩))
  (fun os started H enc _=>lifted os started H enc)
theorem w1:Rows.topAddsRow.wfByText (alQ Rows.topAddsSpec)=true:=by kernel_rfl
theorem w2:Tryz.pinned.checked.prog.mainIs=some (true, "a3a5e38e45533baf2cf60728955e816bcacb337ac2803ea42312e57fdb9de390".toList):=by kernel_rfl
theorem w3:true=Tryz.pinned.checked.prog.looks []:=by kernel_rfl
theorem w4:false=Rows.topAddsRow.goesBy Tryz.pinned.checked.prog:=by kernel_rfl
theorem w5:aaG.funcNamed "narthex/narthextop.TopAdds" =some 6:=by kernel_rfl
theorem w6:aaG.wantsStandIn 24=false:=by kernel_rfl
theorem w7:aaG.wantsStandIn 26=false:=by kernel_rfl
theorem w8:aaG.wantsStandIn 27=false:=by kernel_rfl
theorem proved:Rows.TopAddsCardSaid:=
 Claim7.holds_tied_plain_at .later [] [.data,.data,.data,.data,.data,.handle,.sentinel,.sentinel,.pinned] true (true, "a3a5e38e45533baf2cf60728955e816bcacb337ac2803ea42312e57fdb9de390") true
  row (fun _ h=>by cases h) w1 (fun _ h=>by cases h) topAdds_row_tie rfl ⟨rfl,rfl⟩ w2 rfl
  (fun f fn hf hfn=>by
   obtain rfl:f=6:=ajG (w5.symm.trans hf)|>.symm
   obtain rfl:fn=am2:=(ajG (Tryz.func6.symm.trans hfn)).symm
   exact⟨w3,fun j t ht=>by
    rw[Tryz.params6]at ht
    have h3:t=24\/t=26\/t=27:=by
     rcases j with _|_|_|j
     .exact .inl (by simpa using ht.symm)
     .exact .inr (.inl (by simpa using ht.symm))
     .exact .inr (.inr (by simpa using ht.symm))
     .simp at ht
    rcases h3 with rfl|rfl|rfl
    .exact w6
    .exact w7
    .exact w8⟩)
  w4
end Go.Proofs.YtndifkmolciiaaaGreatDoor.doneTopAdds
