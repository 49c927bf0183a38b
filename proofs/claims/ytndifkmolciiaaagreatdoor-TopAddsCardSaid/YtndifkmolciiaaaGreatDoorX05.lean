/- A part of the proof. -/
import Derived.Test.YtndifkmolciiaaaGreatDoorCards
import Derived.Test.YtndifkmolciiaaaGreatDoorTie
import Derived.Test.YtndifkmolciiaaaGreatDoorX04
set_option linter.all false
set_option maxRecDepth 8000
set_option maxHeartbeats 1000000
open Go.Proofs.Tryz renaming prog->aaG
open Go.World renaming holding->amx
open List renaming filter_eq_nil_iff->alk,filter_eq_self->ajq,range->aiZ
open Option renaming map_eq_some_iff->ab4
open Option.some renaming injEq->ab1
namespace Go.Proofs.YtndifkmolciiaaaGreatDoor
open Go Go.Nx Go.ChangeShapes Go.WideShapes Go.ChangeAt Go.RowKit
theorem own:ownKnob aaG.godebug=none:=by kernel_rfl
theorem laidOut:laidOutB aaG=true:=by kernel_rfl
theorem gE:aaG.globalNamed "errors.errorType" =some 0:=by kernel_rfl
theorem gC:aaG.globalNamed "narthex/crc.steps" =some 2:=by kernel_rfl
theorem yC:(aaG.globals[2]?).map (·.type)=some 435:=by kernel_rfl
theorem rtE:(aaG.cutTypes.find? (·.1== "internal/reflectlite.rtype")).map (·.2)=some 366:=by kernel_rfl
theorem oneE:((aiZ 514).filter fun t=>aaG.rowNamed t [101,114,114,111,114])=[139]:=by kernel_rfl
theorem sizeT:aaG.types.size=514:=by kernel_rfl
abbrev laidL:List (String×DataW Unit):=Rows.topOrderRow.laid
theorem handleE{W:World}(h:laidMetH aaG laidL W):W.cell? ⟨0,0,none⟩=some (.iface 366 (.agg #[.pointer (some ⟨10,139,none⟩)])):=by
 obtain⟨name,u,ty,e1,e2,e3,e4,e5⟩:=(laidMetH_iff.1 h).2 ("errors.errorType",Rows.laid_errors_errorType) (ajH.2 ⟨by simp[laidL,Rows.topOrderRow],rfl⟩);have en:name=[101,114,114,111,114]:=(ajG e1).symm;subst en;obtain rfl:=ajG (rtE.symm.trans e2);have hm:ty∈(aiZ 514).filter fun t=>aaG.rowNamed t [101,114,114,111,114]:=ajH.2 ⟨alB.2 (by rw[<-sizeT];exact e3),e4⟩;rw[oneE]at hm;obtain rfl:=akz.1 hm;have hh:typeHandle aaG 139= .pointer (some ⟨10,139,none⟩):=by kernel_rfl
 rw[hh]at e5;simpa using World.var?_cell gE e5 0
theorem crc_cell{W:World}(h:laidMetH aaG laidL W)(r:Nat)(hr:r<16):W.cell? ⟨2,r,none⟩=some (.int .u32 (li.getD r 0)):=by
 obtain⟨g,t,cs,fuel,p,hg,ht,hv,hd⟩:=Lib.laidMet.reads (laidMetH_iff.1 h).1 (n:= "narthex/crc.steps") (d:=Rows.laid_narthex_crc_steps) (ajH.2 ⟨by simp[laidL,Rows.topOrderRow],rfl⟩);obtain rfl:=ajG (gC.symm.trans hg);obtain rfl:=ajG (yC.symm.trans ht);obtain⟨xs,m,_,ex,_,hl,hel⟩:=DataW.trod_array Tryz.underlying435 hd;have c5:aaG.cellsOf 349=1:=by kernel_rfl
 have hE:=hel r hr;rw[c5,Nat.mul_one,abM (by omega)]at hE;obtain⟨z,e1,e2,_⟩:=DataW.trod_int alT hE;have hlen:li.length=16:=by kernel_rfl
 have e3:(xs.map (·.1))=li.map fun n=> .lit (.int .u32 n):=(DataW.agg.inj (Prod.mk.inj ex).1).symm;have e4:(xs.map (·.1))[r]?=(li.map fun n=>(DataW.lit (.int .u32 n):DataW Unit))[r]?:=by rw[e3]
 rw[adf,adf,abM (by omega:r<xs.length),abM (by omega:r<li.length),e2]at e4;have hz:z=li.getD r 0:=by simp only[ajO,ab1,DataW.lit.injEq,Lit.int.injEq,true_and]at e4;rw[e4,List.getD,abM (by omega:r<li.length)];rfl
 rw[World.var?_cell hg hv r, <-hz]
 have:cs.toList[r]?=some (.int .u32 z):=by
  have h0:((cs.toList.drop r).take 1)[0]?=some (.int .u32 z):=by rw[e1];rfl
  simpa using h0
 simpa using this
theorem lt_of_cell{W:World}{b o:Nat}{v:Value}(h:W.cell? ⟨b,o,none⟩=some v):b<W.heap.size:=by
 rcases aj7 b W.heap.size with h'|h'
 .exact h'
 .simp[World.cell?,ajE h']at h
theorem roms{W:World}(h:laidMetH aaG laidL W):ug (az.of W):=by
 intro p hp;simp only[sK,aeM,aiV,or_false]at hp;rcases hp with rfl|rfl
 .refine ⟨lt_of_cell (crc_cell h 0 (by decide)),?_⟩;simp only[bE,and_true];refine⟨by kernel_rfl,nS fun k l hk=>?_⟩;simp only[adf,ab4]at hk;obtain⟨n,hn,rfl⟩:=hk;have hlt:k<16:=(abW.1 hn).1;refine⟨_,?_,by simp only[aB];exact⟨rfl,rfl⟩⟩;have:=crc_cell h k hlt;rw[List.getD,hn]at this;rw[aiW];exact this
 .refine ⟨lt_of_cell (handleE h),?_⟩;simp only[bE,cR,aB,and_true];exact⟨rfl,_,handleE h,rfl,rfl⟩
noncomputable def world0(os:Os):World:={amx aaG os ⟨#[], #[],[]⟩with heap:=(amx aaG os ⟨#[], #[],[]⟩).heap.modify 0 fun
   | .cells _ t frozen=> .cells #[.iface 366 (.agg #[.pointer (some ⟨10,139,none⟩)])] t frozen
   |o=>o}
noncomputable def laidD:List (String×DataW Unit):=laidL.filter fun x=>x.2.handleName?.isNone
noncomputable def laidWorld(os:Os):World:=(world0 os).layVars aaG laidD
theorem laidWorld_os(os:Os):(laidWorld os).os=os:=World.layVars_os _ _ _
theorem laidD_met(os:Os):laidMet aaG laidD (laidWorld os):=by
 have e1:(laidD.filter fun x=>(laidD.map (·.1)).contains x.1)=laidD:=ajq.2 fun x hx=>ajJ.2 (aiK.2 ⟨x,hx,rfl⟩);have e2:(laidD.filter fun x=>!(laidD.map (·.1)).contains x.1)=[]:=alk.2 fun x hx=>by rw[ajJ.2 (aiK.2 ⟨x,hx,rfl⟩)];simp
 exact laidMet_layVars (w0:=world0 os) (laidD.map (·.1)) [] (by rw[e1];rfl) (by rw[e1];kernel_rfl) (by rw[e1];kernel_rfl) (by rw[e2];exact LaidIn.none)
theorem laidWorld_met(os:Os)(args:Array Value):laidMetH aaG laidL ((laidWorld os).forCall (fun _ _=>0) ⟨#[],args,[]⟩).memory:=
 laidMetH_of_parts ((laidD_met os).of_heap (by simp[World.memory,World.forCall,Input.heap])) (by kernel_rfl)
theorem laidWorld_shaped(os:Os)(args:Array Value):((laidWorld os).forCall (fun _ _=>0) ⟨#[],args,[]⟩).Shaped aaG:=World.shaped_of_ZipB (by kernel_rfl) (by kernel_rfl)
end Go.Proofs.YtndifkmolciiaaaGreatDoor
