/- A part of the proof. -/
import Derived.Test.YtndifkmolciiaaaGreatDoorX03
set_option linter.all false
set_option maxRecDepth 8000
set_option maxHeartbeats 1000000
open BitVec renaming ofInt->aji
open Go.Extern.AbiNoEscape renaming same->amb
open Go.IntKind renaming bits->amZ,i64->adW,signed->amU,u64->aiY,u8->ajf,wrap->am0
open Go.Lib renaming BuilderAt->akc,IsBuilder->alL,byteCells->alp,indexByte->alK
open Go.Lib.BuilderAt renaming cell0->anF,put->anw
open Go.Oper renaming upon_value->aky
open Go.Proofs.Lays renaming n138->amI,n169->amH
open Go.Proofs.Tryz renaming prog->aaG
open Go.Result renaming andThen->ajd
open Go.RowKit renaming Below->ajb
open Go.RowKit.Below renaming block->am7,refl->aj4
open Go.Shelf renaming Ren->aml
open Go.Value renaming int->ajo,oneCell'->aiw
open Go.World.grownBy renaming block->anv
open Int renaming natCast_add->ad0
open List renaming drop_eq_getElem_cons->agO,drop_of_length_le->ajD,drop->ajs,filter_eq_self->ajq,getElem?_append_right->aea,getElem?_set_self->ahr,length_append->agc,length_drop->aj0,map_append->aid,map_congr_left->ajp,map_map->ajc,map_take->akL,mem_iff_getElem->ajZ,pairwise_cons->ahg,range_succ->aj2,range->aiZ,take_add_one->aiH,take_of_length_le->acu,take->ajr
open Nat renaming add_mul->air,beq_eq->akv,beq->ajx,mod_eq_of_lt->amh,mul_le_mul_right->aiN
open Option renaming map_eq_some_iff->ab4
open Option.some renaming injEq->ab1
open UInt8 renaming ofNat->al1
namespace Go.Proofs
open Go.Shelf
def Tryz.MX:aml:=⟨fun|169=>52|n=>n,fun|70=>134|9=>9|0=>0|72=>137|37=>135|127=>210|3=>3|5=>5|n=>n,fun|n=>n⟩
def Tryz.Te:amH aaG Tryz.MX:={
 mixed:=by kernel_rfl
 f169:=Tryz.func52.trans (congrArg some (by kernel_rfl))
 t0:=amg
 a0:=Tryz.isAgg0
 z0:=Tryz.sizeOf0
 v0:=amw
 t3:=amf
 a3:=Tryz.isAgg3
 z3:=Tryz.sizeOf3
 v3:=amv
 t9:=alf
 a9:=Tryz.isAgg9
 z9:=Tryz.sizeOf9
 v9:=amt
 t37:=Tryz.underlying135
 a37:=Tryz.isAgg135
 z37:=Tryz.sizeOf135
 v37:=Tryz.zeroValue135
 t70:=akY
 a70:=Tryz.isAgg134
 z70:=Tryz.sizeOf134
 v70:=Tryz.zeroValue134
 t72:=Tryz.underlying137
 a72:=Tryz.isAgg137
 z72:=Tryz.sizeOf137
 v72:=Tryz.zeroValue137
 t127:=Tryz.underlying210
 a127:=Tryz.isAgg210
 z127:=Tryz.sizeOf210
 v127:=Tryz.zeroValue210}
def Tryz.YF:aml:=⟨fun|138=>86|195=>143|218=>144|143=>145|219=>229|217=>280|225=>281|224=>282|267=>283|266=>322|314=>323|n=>n,fun|9=>9|3=>3|4=>4|5=>5|0=>0|46=>248|146=>439|51=>349|n=>n,fun|1=>1|n=>n⟩
def Tryz.P3:amI aaG Tryz.YF:={
 mixed:=by kernel_rfl
 f138:=Tryz.func86.trans (congrArg some (by kernel_rfl))
 f143:=Tryz.func145.trans (congrArg some (by kernel_rfl))
 f195:=Tryz.func143.trans (congrArg some (by kernel_rfl))
 f217:=Tryz.func280.trans (congrArg some (by kernel_rfl))
 f218:=Tryz.func144.trans (congrArg some (by kernel_rfl))
 f219:=Tryz.func229.trans (congrArg some (by kernel_rfl))
 f224:=Tryz.func282.trans (congrArg some (by kernel_rfl))
 f225:=Tryz.func281.trans (congrArg some (by kernel_rfl))
 f266:=Tryz.func322.trans (congrArg some (by kernel_rfl))
 f267:=Tryz.func283.trans (congrArg some (by kernel_rfl))
 f314:=Tryz.func323.trans (congrArg some (by kernel_rfl))
 t0:=amg
 a0:=Tryz.isAgg0
 z0:=Tryz.sizeOf0
 v0:=amw
 t3:=amf
 a3:=Tryz.isAgg3
 z3:=Tryz.sizeOf3
 v3:=amv
 t4:=ame
 a4:=Tryz.isAgg4
 z4:=Tryz.sizeOf4
 v4:=Tryz.zeroValue4
 t5:=amd
 a5:=Tryz.isAgg5
 z5:=Tryz.sizeOf5
 v5:=amu
 t9:=alf
 a9:=Tryz.isAgg9
 z9:=Tryz.sizeOf9
 v9:=amt
 t46:=Tryz.underlying248
 a46:=Tryz.isAgg248
 z46:=Tryz.sizeOf248
 v46:=Tryz.zeroValue248
 t51:=alT
 a51:=Tryz.isAgg349
 z51:=Tryz.sizeOf349
 v51:=Tryz.zeroValue349
 t146:=Tryz.underlying439
 a146:=Tryz.isAgg439
 z146:=Tryz.sizeOf439
 v146:=Tryz.zeroValue439
 g1:=by kernel_rfl}
end Go.Proofs
namespace Go.Nx
open Go Go.Proofs Tryz
instance iW11:W:=W4
abbrev oK:=FuncId->List aw->List Ob->Option (aw×List Ob)
noncomputable def ky(l:List Nat)(a:oK):bu:={tz with dH:=fun f=>l.contains f,dF:=a}
def aeo(l:List Nat)(a:oK):ly (ky l a) 0 60=true:=by kernel_rfl
def aaH(l:List Nat)(a:oK):ly (ky l a) 60 60=true:=by kernel_rfl
def Xw(l:List Nat)(a:oK):ly (ky l a) 120 60=true:=by kernel_rfl
def aaZ(l:List Nat)(a:oK):ly (ky l a) 180 60=true:=by kernel_rfl
def ago(l:List Nat)(a:oK):ly (ky l a) 240 60=true:=by kernel_rfl
def S8(l:List Nat)(a:oK):ly (ky l a) 300 60=true:=by kernel_rfl
def WV(l:List Nat)(a:oK):ly (ky l a) 360 60=true:=by kernel_rfl
def U3(l:List Nat)(b:oK)(f:Nat)(h:Func)(c:Code)(e:f≠52)(d:(ky l b).P.funcs[f]?=some h)(g:h.body=some c):codeOk (ky l b) f (h.params.size+h.nfree) h.ntmps c=true:=by
 have i:f<417:=by have:=(ajC.1 d).1;change f<aaG.funcs.size at this;rwa [Rw]at this
 by_cases j:f<60
 .exact mB (a:=0) (n:=60) (aeo l b) (by omega) (by omega) e d g
 by_cases k:f<120
 .exact mB (a:=60) (n:=60) (aaH l b) (by omega) (by omega) e d g
 by_cases m:f<180
 .exact mB (a:=120) (n:=60) (Xw l b) (by omega) (by omega) e d g
 by_cases o:f<240
 .exact mB (a:=180) (n:=60) (aaZ l b) (by omega) (by omega) e d g
 by_cases p:f<300
 .exact mB (a:=240) (n:=60) (ago l b) (by omega) (by omega) e d g
 by_cases q:f<360
 .exact mB (a:=300) (n:=60) (S8 l b) (by omega) (by omega) e d g
 .exact mB (a:=360) (n:=60) (WV l b) (by omega) (by omega) e d g
def zL(l:List Nat)(d:oK)(k:52∈l)(m:∀f a H r b,f∈l->d f a H=some (r,b)->Call aaG f a H r b):gU (ky l d):={
 enters:=uI
 qS:=fun f a H r b i n=>m f a H r b (by simpa[ky,ajJ]using i) n
 kR:=fun g a h=>by
  have o:(ajx g 147&&ajx 4 4)=true:=h
  obtain rfl:g=147:=by simpa using o
  exact aeD a
 follows:=wW
 code:=fun f p c i q s=>U3 l d f p c (fun e=>by
  subst e
  have j:l.contains 52=false:=i
  rw[ajJ.2 k]at j
  cases j) q s}
end Go.Nx
namespace Go.Nx
open Go Go.Proofs Go.RowKit
variable{vs:List aw}{H H':List Ob}{r:aw}
theorem wq{l:ab}{s:List UInt8}(h:strOf l=some s):∃b:ByteArray,l= .v (.string b)/\b.data.toList=s:=by unfold strOf at h;grind
def Qp(c:UInt8):∀s:List UInt8,yt c s=s.count c
 |[]=>rfl
 |x::r=>by
  simp only[yt,List.count_cons,Qp c r,beq_iff_eq]
  omega
theorem Mu(c:UInt8):∀(s:List UInt8) (i:Nat),yM c i s=if alK s c= -1 then -1 else alK s c+i
 |[],i=>rfl
 |x::r,i=>by
  have a:=Lib.indexByte_ge r c
  simp only[yM,alK,Mu c r,beq_iff_eq]
  grind
theorem Qy{b:ByteArray}{c:UInt8}(h:b.data.toList=[c]):b=⟨#[c]⟩:=by
 have⟨d⟩:=b;simp at h;have:d= #[c]:=by grind
 rw[this]
theorem T0(h:AF vs H=some (r,H')):Call aaG 86 vs H r H':=by
 unfold AF at h;split at h
 .split at h
  .rename_i a b _ _ s c g i;cases h;obtain⟨f,rfl,rfl⟩:=wq g;obtain⟨p,rfl,j⟩:=wq i;obtain rfl:=Qy j;refine⟨by kernel_rfl,fun d k l hc=>?_⟩;simp only[bT,aL,aB]at hc;obtain⟨y,q,t,⟨rfl,_⟩,u,v,m,⟨rfl,_⟩,rfl⟩:=hc;subst m;obtain rfl:l= #[.string f,.string ⟨#[c]⟩]:=by grind
   exact(Any.strings_Count_one Tryz.P3 f c d.w).mono fun e x ⟨n,o⟩=>⟨_,d,n,o.symm,.refl d,k,by
    simp only[aL,aB,Qp,Lib.countByte]
    exact⟨trivial,rfl⟩⟩
  .cases h
 .cases h
theorem agv(h:AO vs H=some (r,H')):Call aaG 280 vs H r H':=by
 unfold AO at h;split at h
 .split at h
  .rename_i a c _ s f;split at h
   .rename_i o;cases h;obtain⟨b,rfl,rfl⟩:=wq f;refine⟨by kernel_rfl,fun d g i hc=>?_⟩;simp only[bT,aL,aB]at hc;obtain⟨y,p,q,⟨rfl,_⟩,t,u,j,⟨rfl,_⟩,rfl⟩:=hc;subst j;obtain rfl:i= #[.string b,.int .u8 c]:=by grind
    exact(Any.stringslite_IndexByte {Tryz.P3 with} b c d.w).mono fun e v ⟨k,l⟩=>⟨_,d,k,l.symm,.refl d,g,by
     have m:=Mu (al1 c.toNat) b.data.toList 0
     have n:c.toNat.toUInt8=al1 c.toNat:=rfl
     simp only[aL,aB,n,m]
     refine⟨?_,rfl⟩
     simp⟩
   .cases h
  .cases h
 .cases h
end Go.Nx
namespace Go.Nx
open Go Go.Proofs Tryz
def J9:List Nat:=qj++vK++[86,280]
noncomputable abbrev tz0:bu:=ky J9 tz.dF
def JM:gU tz0:=zL J9 tz.dF (by decide) (fun f e H r g b a=>by
 have c:f∈qj\/f∈vK\/f∈ [86,280]:=by
  rcases ain.1 b with h|h
  .grind
  .grind
 rcases c with h|h|h
 .exact wE W4 h a
 .exact Qz W4 h a
 .have d:f=86\/f=280:=by grind
  rcases d with rfl|rfl
  .exact T0 (gB W4 (h:=AF) (by kernel_rfl) a)
  .exact agv (gB W4 (h:=AO) (by kernel_rfl) a))
def call285:Call aaG 285 [.c (Sg [49]),.c (Sg [44])] [] (bd 0 0 0 1) [ah 1 [[Sg [49]]]]:=xH (n:=60) JM (by kernel_rfl)
def call233(p:Option Addr):Call aaG 233 [.c (.v (.pointer p)),.c (Sg [49])] [] (aa 1) []:=xH (n:=60) JM (by kernel_rfl)
section
variable{Γ:az}{H:List Ob}{w:World}
theorem SJ(k:aZ Γ H)(l:ajb Γ.w.heap.size Γ.w w):Calls aaG 285 #[.string ⟨#[49]⟩,.string ⟨#[44]⟩] w fun e c=>∃b o cap,e= .returned (.slice (some ⟨b,o,none⟩) 1 cap)/\c.cell? ⟨b,o,none⟩=some (.string ⟨#[49]⟩)/\ajb w.heap.size w c:=by
 refine(GF call285 (Γ:=Γ.to w) (vw k l) (args':= #[.string ⟨#[49]⟩,.string ⟨#[44]⟩]) ?_).mono ?_
 .simp only[bT,aL,aB];exact⟨_,_,rfl,⟨rfl,rfl⟩,_,_,rfl,⟨rfl,rfl⟩,rfl⟩
 .rintro e c⟨y,s,rfl,rfl,m,n,d⟩;simp only[aL,aB]at d;obtain⟨t,ver,a,cap,p,_,rfl,q⟩:=d;have⟨u,f,v,g⟩:=n.obj (h:=0) (ver:=0) (z:=1) (rows:=[[Sg [49]]]) rfl;rw[p]at f;cases f;rcases q rfl with⟨i,_⟩|⟨b,x,i,rfl,rfl,A,r⟩
  .omega
  .simp only[i]at g;have⟨_,_,_,_,_,cells,T,B,C,j⟩:=g;obtain rfl:=r (by omega);simp only[bE,cR,aB,and_true]at j;obtain⟨_,D,c1,rfl,_⟩:=j;exact⟨b,_,_,rfl,by grind,m⟩
def S4(c:aZ Γ H)(d:ajb Γ.w.heap.size Γ.w w)(p:Option Addr):Calls aaG 233 #[.pointer p,.string ⟨#[49]⟩] w fun e a=>e= .returned (.int .i64 1)/\ajb w.heap.size w a:=by
 refine(GF (call233 p) (Γ:=Γ.to w) (vw c d) (args':= #[.pointer p,.string ⟨#[49]⟩]) ?_).mono ?_
 .simp only[bT,aL,aB];exact⟨_,_,rfl,⟨rfl,rfl⟩,_,_,rfl,⟨rfl,rfl⟩,rfl⟩
 .rintro e a⟨y,g,rfl,rfl,f,h,b⟩;simp only[aL,aB]at b;obtain⟨rfl,_⟩:=b;exact⟨rfl,f⟩
def Ws:(aaG.info? 3).map (fun i=>(i.zero,i.size,i.bytes))=some (some (.int .i64 0),1,8):=by kernel_rfl
set_option maxRecDepth 100000 in
def WX(h:aZ Γ H)(p:Option Addr):Calls aaG 234 #[.pointer p,.string ⟨#[49]⟩] Γ.w fun e i=>∃b cap a,e= .returned (.slice (some ⟨b,0,none⟩) 1 cap)/\Γ.w.heap.size<=b/\i.heap[b]?=some (.cells a 3 (0,0))/\a[0]?=some (.int .i64 1)/\1<=cap/\cap<=maxLen/\a.size=cap/\ajb Γ.w.heap.size Γ.w i:=by
 have⟨r,s,t,v,x⟩:=info_parts Ws;have M:∀(l:Go.Fn) (first cap:Array Value) (w:World),(Instr.makeFunc l first cap).run aaG w= .ok (.func l first cap) w:=fun _ _ _ _=>rfl;go_enter func234,ntmps234
 go_wp2_with fail
 refine(SJ h (aj4 _ _)).mono ?_;rintro e w1 ⟨b,o,cap,rfl,N,d⟩;go_wp2_with fail
 refine wp_loop_rounds 2 ?_;rw[rounds_succ];go_wp2_with fail
 refine(S4 h d p).mono ?_;rintro e w2 ⟨rfl,y⟩;have c:ajb Γ.w.heap.size Γ.w w2:=d.trans (y.mono d.size);go_wp2_with (at_builtin;refine wpList_append_own _ rfl _ _ 30 rfl Γ.w.heap.size 3 r (.int .i64 0) 1 8 underlying30 s t v x rfl (by decide) _ 0 [] rfl ⟨rfl,.inl ⟨rfl,rfl⟩⟩ ⟨w2.heap.size,0,none⟩ 1 1 [.int .i64 1] rfl rfl ?c1 ?c2 ?c3 ?c4 ?c5 ?_)
 case c1=>
  intro j u f;match j with
  |0=>simp at f;subst f;rw[show(⟨w2.heap.size,0,none⟩:Addr).add 0=⟨w2.heap.size,0,none⟩from rfl,aly _ _ _ _ rfl];rfl
  |j+1=>simp at f
 case c2=>intro u m;simp at m;subst m;rfl
 case c3=>unfold maxLen;omega
 case c4=>omega
 case c5=>have:=c.size;simp;omega
 intro O w3 z A _;have B:ajb Γ.w.heap.size Γ.w w3:=(c.alloc c.size _).grown A (by have:=c.size;simp;omega) (fun k C=>by cases C);obtain⟨P,⟨rfl,D⟩|⟨g,E,a,rfl,F,G,I,J,K,n⟩⟩:=z
 .cases D
 have L:a[0]?=some (.int .i64 1):=by
  have q:(a.toList.take 1)[0]?=some (.int .i64 1):=by have e:0+1=1:=rfl;simp only[Nat.mul_one]at n;rw[n];rfl
  rw[aj6 (by omega)]at q;simpa using q
 go_wp2
 rw[rounds_succ];go_wp2
 go_end0
 go_wp2
 go_ret
 exact⟨g,E,a,rfl,F,G,L,I,J,by simpa using K,B⟩
def az.pY(Γ:az)(w:World)(b cap:Nat):az:=⟨w,Γ.F,fun k=>Γ.X k\/k=b,Γ.hs++[(⟨some b,0,cap,1⟩,0)]⟩
theorem agV(c:aZ Γ H)(a:ajb Γ.w.heap.size Γ.w w){b cap:Nat}{e:Array Value}{T:TypeId}{l:ab}{y:Value}(r:Γ.w.heap.size<=b)(s:w.heap[b]?=some (.cells e T (0,0)))(B:e[0]?=some y)(C:∀Γ,aB Γ l y)(t:1<=cap)(u:cap<=maxLen)(x:e.size=cap):
  Γ.cL (Γ.pY w b cap)/\aZ (Γ.pY w b cap) (H++[ah 1 [[l]]]):=by
 have A:b<w.heap.size:=by grind
 have p:Γ.Le (Γ.pY w b cap):=⟨fun _ _ h=>h,fun k z h=>a.block k (c.F k z h),fun h i v D=>⟨i,v,by
  grind [az.pY],ad3 _,fun _=>rfl⟩⟩
 refine⟨⟨p,a.os,a.tape,a.output,a.size,fun k g _=>a.block k g,fun k z h=> .inl h,fun k h=>?_⟩,?_⟩
 .rcases h with h|rfl
  .exact .inl h
  omega
 refine c.put p H.length (by simp[az.pY,c.len]) (fun n hn=>⟨ot _ _ _ hn,by grind [az.pY,(aZ.len)]⟩) (fun o j=>?_) (fun o E v G j _ f q=>?_) (fun k g _=>a.block k g)
  (fun b z d=> .inl d) (fun b m=> .inl m) (fun k z d=>aiS (c.F k z d) a.size) (fun k m=>?_)
 .simp at j
  subst j
  refine⟨⟨some b,0,cap,1⟩,by simp[az.pY,c.len],u,rfl,.inr rfl,fun z d=>?_,by simpa using t,by simp,e,T,.fresh s,by simp[x],?_⟩
  .have:=c.F _ _ d
   omega
  grind [bE,cR,(cell_of),az.pY]
 .simp only[az.pY]at f
  rw[c.len]at f
  simp at f
  rw[<-f.1]at q
  cases q
  exact .inl r
 .rcases m with h|rfl
  .exact aiS (c.X k h) a.size
  .exact A
theorem adw{c:List aw}{r:aw}{d:List Ob}(h:zu c H=some (r,d)):Call aaG 234 c H r d:=by
 unfold zu at h;split at h
 .split at h
  .rename_i v w a _ i;cases h;obtain⟨x,rfl,j⟩:=wq i;obtain rfl:=Qy j;refine⟨by kernel_rfl,fun Γ f g hc=>?_⟩;simp only[bT,aL,aB]at hc;obtain⟨y,z,A,⟨B,C,p,D,E,rfl,F⟩,G,J,k,⟨rfl,_⟩,rfl⟩:=hc;subst k;obtain rfl:g= #[.pointer p,.string ⟨#[49]⟩]:=by cases g;simp_all
   refine(WX f p).mono ?_;rintro e K ⟨b,cap,L,rfl,m,n,o,q,s,t,u⟩;have⟨M,N⟩:=agV f u m n o (l:=I 1) (fun _=>⟨rfl,rfl⟩) q s t;grind [aL,aB,az.pY,(aZ.len)]
  .cases h
 .cases h
end
end Go.Nx
namespace Go.Nx
open Go Go.Proofs Go.RowKit
def Av:List UInt8->List UInt8->Bool
 |[],[]=>true
 |a::l,b::m=>ajx a.toNat b.toNat&&Av l m
 |_,_=>false
def Mm:∀ {l m:List UInt8},Av l m=true->l=m
 |[],[],_=>rfl
 |a::l,b::m,h=>by
  simp only[Av,abR,akv]at h
  rw[UInt8.toNat_inj.1 h.1,Mm h.2]
def DU:Int->Int->Bool
 | .ofNat a,.ofNat b=>ajx a b
 | .negSucc a,.negSucc b=>ajx a b
 |_,_=>false
def Nc:∀ {a b:Int},DU a b=true->a=b
 | .ofNat a,.ofNat b,h=>by rw[ajv h]
 | .negSucc a,.negSucc b,h=>by rw[ajv h]
def FV:Value->Value->Bool
 | .int .i64 n,.int .i64 m=>DU n m
 | .int .u64 n,.int .u64 m=>DU n m
 | .bool true,.bool true=>true
 | .bool false,.bool false=>true
 | .slice none 0 0,.slice none 0 0=>true
 | .string s,.string t=>Av s.data.toList t.data.toList
 |_,_=>false
def SN{x y:Value}(h:FV x y=true):x=y:=by
 unfold FV at h;split at h
 .rw[Nc h]
 .rw[Nc h]
 .rfl
 .rfl
 .rfl
 .rename_i s t;have a:=Mm h;have⟨⟨s⟩⟩:=s;simp_all
 .cases h
mutual
def mq:ab->ab->Bool
 | .v x,.v y=>FV x y
 | .aj r,.aj s=>tf r s
 | .ptr a b c d,.ptr e f g h=>ajx a e&&ajx b f&&ajx c g&&ajx d h
 | .sl a b c d,.sl e f g h=>ajx a e&&ajx b f&&ajx c g&&ajx d h
 | .mr a,.mr b=>ajx a b
 |_,_=>false
def sH:List ab->List ab->Bool
 |[],[]=>true
 |a::l,b::m=>mq a b&&sH l m
 |_,_=>false
def tf:List (List ab)->List (List ab)->Bool
 |[],[]=>true
 |a::l,b::m=>sH a b&&tf l m
 |_,_=>false
end
mutual
theorem Hb:∀ {a b:ab},mq a b=true->a=b
 | .v x,b,h=>by
  cases b<;>simp only[mq]at h<;>first|cases h|rw[SN h]
 | .aj r,b,h=>by
  cases b<;>simp only[mq]at h<;>first|cases h|rw[Cu h]
 | .ptr a b c d,x,h=>by
  cases x<;>simp only[mq,abR,akv]at h<;>first|cases h;done|grind
 | .sl a b c d,x,h=>by
  cases x<;>simp only[mq,abR,akv]at h<;>first|cases h;done|grind
 | .mr a,x,h=>by
  cases x<;>simp only[mq,akv]at h<;>first|cases h;done|grind
 | .aJ ..,_,h=>by simp[mq]at h
 | .eU ..,_,h=>by simp[mq]at h
 | .bF ..,_,h=>by simp[mq]at h
 | .ig ..,_,h=>by simp[mq]at h
 | .mG ..,_,h=>by simp[mq]at h
theorem Ae:∀ {a b:List ab},sH a b=true->a=b
 |[],[],_=>rfl
 |a::l,b::m,h=>by
  simp only[sH,abR]at h
  rw[Hb h.1,Ae h.2]
 |[],_::_,h=>by simp[sH]at h
 |_::_,[],h=>by simp[sH]at h
theorem Cu:∀ {a b:List (List ab)},tf a b=true->a=b
 |[],[],_=>rfl
 |a::l,b::m,h=>by
  simp only[tf,abR]at h
  rw[Ae h.1,Cu h.2]
 |[],_::_,h=>by simp[tf]at h
 |_::_,[],h=>by simp[tf]at h
end
def zj:List (List ab×ab)->List (List ab×ab)->Bool
 |[],[]=>true
 |(a,x)::l,(b,y)::m=>sH a b&&mq x y&&zj l m
 |_,_=>false
theorem LG:∀ {l m:List (List ab×ab)},zj l m=true->l=m
 |[],[],_=>rfl
 |(a,x)::l,(b,y)::m,h=>by
  simp only[zj,abR]at h
  rw[Ae h.1.1,Hb h.1.2,LG h.2]
def Cc:Ob->Ob->Bool
 | .live v z r,.live a b c=>ajx v a&&ajx z b&&tf r c
 | .dead,.dead=>true
 | .mp e,.mp f=>zj e f
 |_,_=>false
def agq{a b:Ob}(h:Cc a b=true):a=b:=by unfold Cc at h;grind [(akv),(Cu),(LG)]
def xC:List Ob->List Ob->Bool
 |[],[]=>true
 |a::l,b::m=>Cc a b&&xC l m
 |_,_=>false
theorem NN:∀ {l m:List Ob},xC l m=true->l=m
 |[],[],_=>rfl
 |a::l,b::m,h=>by
  simp only[xC,abR]at h
  rw[agq h.1,NN h.2]
def sJ:List aw->List aw->Bool
 |[],[]=>true
 | .c a::l,.c b::m=>mq a b&&sJ l m
 | .agg a::l,.agg b::m=>sH a b&&sJ l m
 |_,_=>false
theorem Cy:∀ {l m:List aw},sJ l m=true->l=m
 |[],[],_=>rfl
 | .c a::l,.c b::m,h=>by
  simp only[sJ,abR]at h
  rw[Hb h.1,Cy h.2]
 | .agg a::l,.agg b::m,h=>by
  simp only[sJ,abR]at h
  rw[Ae h.1,Cy h.2]
def zK:Ob->Ob->Ob
 | .live v z _,.live _ _ []=> .live v z []
 |o,_=>o
def nF:List Ob->List Ob->List Ob
 |o::H,x::R=>zK o x::nF H R
 |H,_=>H
theorem ab3(o x:Ob):zK o x=o\/∃v z rows,o= .live v z rows/\zK o x= .live v z []:=by unfold zK;grind
def Jf:∀(H R:List Ob) (i:Nat),(nF H R)[i]?=H[i]?\/∃v z rows,H[i]?=some (.live v z rows)/\(nF H R)[i]?=some (.live v z [])
 |[],R,i=>by cases R<;>exact .inl rfl
 |o::H,[],i=> .inl rfl
 |o::H,x::R,i=>by
  cases i with
  |zero=>
   grind [nF,(ab3)]
  |succ i=>
   simp only[nF,List.getElem?_cons_succ]
   exact Jf H R i
def KX:∀(H R:List Ob),(nF H R).length=H.length
 |[],R=>by rfl
 |o::H,[]=>rfl
 |o::H,x::R=>by simp only[nF,aip,KX H R]
theorem Nw{H R:List Ob}{i:Nat}{o:Ob}(h:(nF H R)[i]?=some o):∃a,H[i]?=some a/\a.there=o.there:=by
 rcases Jf H R i with e|⟨v,z,rows,c,b⟩
 .grind
 .rw[h]at b;cases b;exact⟨_,c,rfl⟩
def ahj{d:az}{H:List Ob}(a:aZ d H)(R:List Ob):aZ d (nF H R)where
 len:=by rw[KX];exact a.len
 ob i o h:=by
  rcases Jf H R i with e|⟨v,z,rows,f,c⟩
  .grind [(aZ.ob)]
  .rw[h]at c
   cases c
   have⟨g,k,l,m⟩:=a.ob i _ f
   refine⟨g,k,l,?_⟩
   grind [bE]
 apart i j v n o p g q b f c r s t u w x:=by
  grind [(Nw),(aZ.apart)]
 F:=a.F
 X:=a.X
 G:=a.G
theorem Call.nF{P:Program}{f:FuncId}{args:List aw}{H b R:List Ob}{r:aw}(h:Call P f args H r b)(e:Nx.nF b R=R):Call P f args H r R:=
 ⟨h.1,fun c d a hc=>(h.2 c d a hc).mono fun _ _ ⟨y,g,i,j,k,l,m⟩=>⟨y,g,i,j,k,e▸ahj l R,m⟩⟩
abbrev EI:=List (List aw×List Ob×aw×List Ob)
def xR:EI->List aw->List Ob->Option (aw×List Ob)
 |[],_,_=>none
 |(a,h,r)::t,b,H=>cond (sJ a b&&xC h H) (some r) (xR t b H)
def KU{P:Program}{f:FuncId}:∀ {T:EI} {b:List aw} {H:List Ob} {r:aw} {c:List Ob},xR T b H=some (r,c)->(∀e∈T,Call P f e.1 e.2.1 e.2.2.1 e.2.2.2)->Call P f b H r c
 |(a,h,g)::t,b,H,r,c,e,d=>by
  unfold xR at e
  cases hc:(sJ a b&&xC h H)with
  |true=>
   rw[hc]at e
   cases e
   simp only[abR]at hc
   have:=d _ (ajz ..)
   grind [(Cy),(NN)]
  |false=>
   rw[hc]at e
   exact KU e fun e h=>d e (aiO _ h)
end Go.Nx
namespace Go.Nx
open Go Go.Proofs Tryz
def D6:List Nat:=J9++[234]
noncomputable abbrev tz1:bu:=ky D6 tz.dF
def od:gU tz1:=zL D6 tz.dF (by decide) (fun f b H r c d a=>by
 rcases ain.1 d with h|h
 .exact JM.qS f b H r c (by simpa[ky,ajJ]using h) a
 .obtain rfl:f=234:=by simpa using h
  exact adw (gB W4 (h:=zu) (by kernel_rfl) a))
def fit{C:bu}(b:gU C)(n:Nat){f:FuncId}{a:List aw}{G R:List Ob}{r:aw}(h:(bB C (run C n) f a G).map (fun p=>(p.1,nF p.2 R))=some (r,R)):Call C.P f a G r R:=by have⟨⟨x,H⟩,c,d⟩:=ab4.1 h;injection d with e g;subst e;exact(xH b c).nF g
def oT:List Ob:=[ah 1 [],ah 2 [],ah 6 [],ah 5 [],ah 3 [],ah 1 [[I 0]],.live 1 10 [],ah 1 [[Sg [5,0,1]]],.live 5 6 [[I 3,I 0,I 1,I 0,I 0,.aj []],[I 6,I 0,I 0,I 0,I 0,.aj []],[I 7,I 0,I 1,I 0,I 0,.aj []],[I 6,I 1,I 0,I 0,I 0,.aj []],[I 7,I 1,I 0,I 0,I 0,.aj []],[I 0,I 0,I 0,I 1,I 0,.aj [[I 1]]]],ah 8 [[I 2,I 8,I 1,I 8,I 9,.sl 13 0 0 2,.mr 15,.mr 16]],ah 6 [[I 3,I 0,I 1,I 0,I 0,.aj []]],.mp [([I 0,I 1],.ptr 31 0 0 0)],ah 3 [[I 5,I 1,I 0]],ah 3 [[I 2,I 8,.mr 29]],ah 6 [[I 6,I 0,I 0,I 0,I 0,.aj []]],ah 1 [[Sg [6,0,1]]],ah 1 [[Sg [78,1,1,0,1,0,0,0,0,0,0,0,0,0,0,0,0,0,0,0,0,0,3,5,0,1,81,62,229,102]],[Sg []],[Sg []],[Sg []],[Sg []],[Sg []],[Sg []],[Sg []]],ah 6 [[I 7,I 0,I 1,I 0,I 0,.aj []]],.mp [([I 0,I 1],.ptr 22 0 0 0),([I 1,I 0],.ptr 70 0 0 0)],ah 2 [[.sl 24 0 1 0,I 0]],ah 3 [[.sl 54 0 0 8,I 0,I 0]],ah 3 [[I 6,I 1,I 0]],ah 11 [[I 1,I 2,I 8,I 1,.sl 37 0 0 1,.v (.int .u64 0),I 1,I 1,.v (.int .u64 0),B false,I 0]],ah 6 [[I 6,I 1,I 0,I 0,I 0,.aj []]],.mp [([I 0,I 1],.ptr 55 0 0 0),([I 1,I 0],.ptr 99 0 0 0)],ah 11 [[I 1,I 2,I 8,I 1,.sl 80 0 0 1,.v (.int .u64 0),I 1,I 1,.v (.int .u64 1),B false,I 0]],ah 1 [[Sg [78,1,1,0,1,0,0,0,0,0,0,0,0,0,0,0,0,0,0,0,1,0,3,6,0,1,152,36,136,154]],[Sg []],[Sg []],[Sg []],[Sg []],[Sg []],[Sg []],[Sg []]],.mp [],ah 10 [[I 0,I 2,.aj [[I 1,I 1,I 1,B true,B true,B false,B true,B false]],I 0,.aj [],I 0,.aj [],.aj [[I 1,I 1]],.aj [[I 1]],.aj []],[I 1,I 0,.aj [],I 0,.aj [],I 0,.aj [],.aj [],.aj [],.aj []]],.mp [([I 0,I 1],.ptr 22 0 0 0)],ah 2 [[.sl 24 0 0 1,I 1]],ah 5 [[.ptr 32 0 0 0,.ptr 33 0 0 0,eW,eW,.ptr 30 0 0 0]],ah 11 [[I 1,I 2,I 8,I 1,eW,.v (.int .u64 0),I 0,I 0,.v (.int .u64 0),B false,I 0]],.mp [([I 0,I 1],.ptr 55 0 0 0)],ah 10 [[I 0,I 2,.aj [[I 1,I 1,I 1,B true,B true,B false,B true,B false]],I 0,.aj [],I 0,.aj [],.aj [[I 1,I 1]],.aj [[I 1]],.aj []],[I 1,I 0,.aj [[I 0,I 1,I 0,B false,B false,B true,B false,B true]],I 0,.aj [],I 0,.aj [],.aj [[I 0,I 1]],.aj [],.aj []]],ah 5 [[.ptr 32 0 0 0,.ptr 33 0 0 0,eW,.sl 64 0 0 1,.ptr 30 0 0 0]],ah 2 [[.sl 72 0 0 1,I 1]],ah 6 [[I 7,I 1,I 0,I 0,I 0,.aj []]],ah 5 [[.ptr 32 0 0 0,.ptr 33 0 0 0,.sl 108 0 0 1,.sl 64 0 0 1,.ptr 30 0 0 0]],ah 11 [[I 1,I 2,I 8,I 1,.sl 37 0 1 0,.v (.int .u64 1),I 0,I 0,.v (.int .u64 1),B true,I 0]],ah 2 [[.sl 72 0 1 0,I 0]],ah 3 [[.sl 98 0 0 8,I 0,I 0]],ah 11 [[I 1,I 2,I 8,I 1,.sl 37 0 0 1,.v (.int .u64 0),I 0,I 0,.v (.int .u64 0),B false,I 0]],ah 3 [[.sl 54 0 0 8,I 0,I 1]],.live 1 5 [],.live 1 1 [[I 0],[I 0]],ah 11 [[I 1,I 2,I 8,I 1,.sl 80 0 0 1,.v (.int .u64 0),I 0,I 0,.v (.int .u64 1),B true,I 0]],.live 2 5 [[I 6,I 1,I 0,I 0,eW]],.live 2 1 [[I 0],[I 0],[I 0]],ah 3 [[.sl 98 0 0 8,I 0,I 1]],.live 3 5 [[I 6,I 1,I 0,I 0,eW]],.live 3 1 [[I 0],[I 0],[I 0],[I 0]],ah 10 [[I 0,I 0,.aj [[I 1,I 1,I 0,B true,B true,B false,B true,B false]],I 0,.aj [],I 0,.aj [],.aj [[I 1,I 1]],.aj [],.aj []],[I 1,I 0,.aj [[I 0,I 1,I 0,B false,B false,B true,B false,B true]],I 0,.aj [],I 0,.aj [],.aj [[I 0,I 1]],.aj [],.aj []]],.live 4 5 [[I 6,I 1,I 0,I 0,eW],[I 6,I 0,I 0,I 1,eW]],.live 4 1 [[I 0],[I 0],[I 0],[I 0],[I 0]],ah 6 [[I 0,I 0,I 0,I 1,I 0,.aj [[I 1]]]],ah 11 [],ah 10 [[I 0,I 0,.aj [],I 0,.aj [],I 0,.aj [],.aj [],.aj [],.aj []],[I 1,I 0,.aj [],I 0,.aj [],I 0,.aj [],.aj [],.aj [],.aj []]],ah 2 [[.sl 13 0 0 2,.aj []]],ah 10 [[I 0,I 0,.aj [[I 1,I 1,I 0,B true,B true,B false,B true,B false]],I 2,.aj [[I 1]],I 1,.aj [[I 1,.aj [[I 1]],I 1,I 0]],.aj [[I 1,I 1]],.aj [],.aj []],[I 1,I 0,.aj [[I 0,I 1,I 0,B false,B false,B true,B false,B true]],I 0,.aj [],I 0,.aj [],.aj [[I 0,I 1]],.aj [],.aj []]],.live 5 6 [],ah 10 [],ah 8 [],.live 5 5 [[I 6,I 1,I 0,I 0,eW],[I 6,I 0,I 0,I 1,eW],[I 0,I 0,I 1,I 0,.aj [[I 1]]],[I 1,I 0,I 1,I 0,eW]],.live 5 1 [[I 0],[I 0],[I 0],[I 0],[I 0],[I 0]]]
def hp:List Nat->List Ob
 |[]=>[]
 |i::r=>oT.getD i .dead::hp r
def zn:List Ob:=hp [2,2,8,2,2,2,2,2,2,2,2,2,2]
def call48:Call aaG 48 [.c (Sg te)] [] (.aM [bd 2 5 0 6,aa 0,aa 0]) zn:=fit od 100 (by kernel_rfl)
def OT:List Ob:=hp [2,2,8,2,2,2,2,2,2,2,2,2,2,57,58,27,27,9,10]
def Nz:List Ob:=hp [2,2,8,2,2,2,2,2,2,2,2,2,2,28,1,11,29,9,10,6,3,1,30,4,12,0,0,1,1,27,13,31,42,32,0,0,0,7]
def UG:Call aaG 92 [au 17,.agg [I 3,I 0,I 1,I 0,I 0,.aj []]] OT (.aM [.c (eW),aa 0]) Nz:=fit od 200 (by kernel_rfl)
def OR:List Ob:=hp [2,2,8,2,2,2,2,2,2,2,2,2,2,28,1,11,29,9,10,6,3,1,30,4,12,0,0,1,1,27,13,31,42,32,0,0,0,7,3,5,5,14]
def Og:List Ob:=hp [2,2,8,2,2,2,2,2,2,2,2,2,2,28,1,11,29,9,10,6,3,1,30,4,12,0,0,1,1,33,13,31,22,32,0,0,0,7,3,5,5,14,0,0,1,0,0,1,0,0,3,3,3,1,16,43]
def adg:Call aaG 92 [au 17,.agg [I 6,I 0,I 0,I 0,I 0,.aj []]] OR (.aM [.c (eW),aa 0]) Og:=fit od 200 (by kernel_rfl)
def O2:List Ob:=hp [2,2,8,2,2,2,2,2,2,2,2,2,2,28,1,11,29,9,10,6,3,1,30,4,12,0,0,1,1,33,13,31,22,32,0,0,0,7,44,5,45,14,0,0,1,0,0,1,0,0,3,3,3,1,16,43,5,17]
def Ma:List Ob:=hp [2,2,8,2,2,2,2,2,2,2,2,2,2,34,1,11,18,9,10,6,3,1,19,4,12,0,0,1,1,33,13,35,22,46,0,0,0,7,44,5,45,14,0,0,1,0,0,1,0,0,3,3,3,1,16,20,5,17,1,1,1,1,3,0,7,1,4,6,3,1,36,4,21,0,0,1,1,0,0,0,15,0,0,1]
def Tq:Call aaG 92 [au 17,.agg [I 7,I 0,I 1,I 0,I 0,.aj []]] O2 (.aM [bh [[I 6,I 1,I 0,I 0,eW]],aa 0]) Ma:=fit od 200 (by kernel_rfl)
def Qd:List Ob:=hp [2,2,8,2,2,2,2,2,2,2,2,2,2,34,1,11,18,9,10,6,3,1,19,4,12,0,0,1,1,33,13,35,22,46,0,0,0,7,47,5,48,14,0,0,1,0,0,1,0,0,3,3,3,1,16,20,5,17,1,1,1,1,3,0,7,1,4,6,3,1,36,4,21,0,0,1,1,0,0,0,15,0,0,1,5,23]
def Sq:List Ob:=hp [2,2,8,2,2,2,2,2,2,2,2,2,2,34,1,11,18,9,10,6,3,1,19,4,12,0,0,1,1,24,13,35,22,25,0,0,0,7,47,5,48,14,0,0,1,0,0,1,0,0,3,3,3,1,16,20,5,17,1,1,1,1,3,0,7,1,4,6,3,1,36,4,21,0,0,1,1,0,0,0,15,0,0,1,5,23,0,0,1,0,0,1,0,0,3,3,3,1,26,49]
def adh:Call aaG 92 [au 17,.agg [I 6,I 1,I 0,I 0,I 0,.aj []]] Qd (.aM [.c (eW),aa 0]) Sq:=fit od 200 (by kernel_rfl)
def N3:List Ob:=hp [2,2,8,2,2,2,2,2,2,2,2,2,2,34,1,11,18,9,10,6,3,1,19,4,12,0,0,1,1,24,13,35,22,25,0,0,0,7,50,5,51,14,0,0,1,0,0,1,0,0,3,3,3,1,16,20,5,17,1,1,1,1,3,0,7,1,4,6,3,1,36,4,21,0,0,1,1,0,0,0,15,0,0,1,5,23,0,0,1,0,0,1,0,0,3,3,3,1,26,49,5,37]
def RV:List Ob:=hp [2,2,8,2,2,2,2,2,2,2,2,2,2,52,1,11,18,9,10,6,3,1,19,4,12,0,0,1,1,24,13,38,39,25,0,0,0,7,50,5,51,14,0,0,1,0,0,1,0,0,3,3,3,1,16,20,5,17,1,1,1,1,3,0,7,1,4,6,3,1,40,4,21,0,0,1,1,0,0,0,15,0,0,1,5,23,0,0,1,0,0,1,0,0,3,3,3,1,26,41,5,37,1,1,1,1,3,0,15,1,4,6,0,0,1,0,0,1]
def agB:Call aaG 92 [au 17,.agg [I 7,I 1,I 0,I 0,I 0,.aj []]] N3 (.aM [bh [[I 6,I 0,I 0,I 1,eW]],aa 0]) RV:=fit od 200 (by kernel_rfl)
def OO:List Ob:=hp [2,2,8,2,2,2,2,2,2,2,2,2,2,52,1,11,18,9,10,6,3,1,19,4,12,0,0,1,1,24,13,38,39,25,0,0,0,7,53,5,54,14,0,0,1,0,0,1,0,0,3,3,3,1,16,20,5,17,1,1,1,1,3,0,7,1,4,6,3,1,40,4,21,0,0,1,1,0,0,0,15,0,0,1,5,23,0,0,1,0,0,1,0,0,3,3,3,1,26,41,5,37,1,1,1,1,3,0,15,1,4,6,0,0,1,0,0,1,5,55]
def Sk:List Ob:=hp [2,2,8,2,2,2,2,2,2,2,2,2,2,59,1,11,18,9,10,6,3,1,19,4,12,0,0,1,1,24,13,38,39,25,0,0,0,7,53,5,54,14,0,0,1,0,0,1,0,0,3,3,3,1,16,20,5,17,1,1,1,1,3,0,7,1,4,6,3,1,40,4,21,0,0,1,1,0,0,0,15,0,0,1,5,23,0,0,1,0,0,1,0,0,3,3,3,1,26,41,5,37,1,1,1,1,3,0,15,1,4,6,0,0,1,0,0,1,5,55,6,0,0,1]
def VX:Call aaG 92 [au 17,.agg [I 0,I 0,I 0,I 1,I 0,.aj [[I 1]]]] OO (.aM [bh [[I 0,I 0,I 1,I 0,.aj [[I 1]]],[I 1,I 0,I 1,I 0,eW]],aa 0]) Sk:=fit od 200 (by kernel_rfl)
def Ah:EI:=[([au 17,.agg [I 3,I 0,I 1,I 0,I 0,.aj []]],OT,.aM [.c (eW),aa 0],Nz),([au 17,.agg [I 6,I 0,I 0,I 0,I 0,.aj []]],OR,.aM [.c (eW),aa 0],Og),([au 17,.agg [I 7,I 0,I 1,I 0,I 0,.aj []]],O2,.aM [bh [[I 6,I 1,I 0,I 0,eW]],aa 0],Ma),([au 17,.agg [I 6,I 1,I 0,I 0,I 0,.aj []]],Qd,.aM [.c (eW),aa 0],Sq),([au 17,.agg [I 7,I 1,I 0,I 0,I 0,.aj []]],N3,.aM [bh [[I 6,I 0,I 0,I 1,eW]],aa 0],RV),([au 17,.agg [I 0,I 0,I 0,I 1,I 0,.aj [[I 1]]]],OO,.aM [bh [[I 0,I 0,I 1,I 0,.aj [[I 1]]],[I 1,I 0,I 1,I 0,eW]],aa 0],Sk)]
def afo:∀e∈Ah,Call aaG 92 e.1 e.2.1 e.2.2.1 e.2.2.2:=by
 intro e a;simp only[Ah,aeM,aiV,or_false]at a;rcases a with rfl|rfl|rfl|rfl|rfl|rfl
 .exact UG
 .exact adg
 .exact Tq
 .exact adh
 .exact agB
 .exact VX
def Ru:List Nat:=D6++[92]
noncomputable abbrev zZ:oK:=fun f a H=>cond (ajx f 92) (xR Ah a H) (tz.dF f a H)
noncomputable abbrev XA:bu:=ky Ru zZ
def aal:gU XA:=zL Ru zZ (by decide) (fun f b H r c g e=>by
 cases a:ajx f 92 with
 |true=>
  have d:xR Ah b H=some (r,c):=by simpa[zZ,a]using e
  rw[ajv a];exact KU d afo
 |false=>
  have d:tz.dF f b H=some (r,c):=by simpa[zZ,a]using e
  rcases ain.1 g with h|h
  .exact od.qS f b H r c (by simpa[ky,ajJ]using h) d
  .rw[akz.1 h]at a;cases a)
def Ct:List Ob:=hp [2,2,60,2,2,2,2,2,2,2,2,2,2,61,1,11,18,62,2,6,3,1,1,4,4,0,0,1,1,24,4,3,56,56,0,0,0,0,63,0,64,2,0,0,1,0,0,1,0,0,3,3,3,1,0,4,0,2,1,1,1,1,3,0,0,1,4,6,3,1,1,4,4,0,0,1,1,0,0,0,0,0,0,1,0,2,0,0,1,0,0,1,0,0,3,3,3,1,0,4,0,2,1,1,1,1,3,0,0,1,4,6,0,0,1,0,0,1,0,2,6,0,0,1,0]
def call49:Call aaG 49 [.agg [I 2,.aj []],.agg [I 2,I 8,I 1,I 8,I 9],bd 2 5 0 6] zn (.aM [bd 38 5 0 4,bd 40 5 0 6,aa 0]) Ct:=fit aal 200 (by kernel_rfl)
def Rb:List (List ab):=[[I 6,I 1,I 0,I 0,eW],[I 6,I 0,I 0,I 1,eW],[I 0,I 0,I 1,I 0,.aj [[I 1]]],[I 1,I 0,I 1,I 0,eW]]
def WT:obj Ct 38 5=some (5,Rb):=by kernel_rfl
def yu:List UInt8:=[108,105,118,101,32,49,32,48,10]
def JF:List UInt8:=[108,105,118,101,32,48,32,49,10]
def Mj:List UInt8:=[111,112,101,110,101,100,32,48,32,49,32,49,10]
def X9:List UInt8:=[103,114,97,110,116,101,100,32,48,32,49,10]
def ZQ:Call aaG 51 [.agg [I 6,I 1,I 0,I 0,eW]] [] (.c (Sg yu)) [ah 9 []]:=fit od 100 (by kernel_rfl)
def Y5:Call aaG 51 [.agg [I 6,I 0,I 0,I 1,eW]] [] (.c (Sg JF)) [ah 9 []]:=fit od 100 (by kernel_rfl)
def YJ:Call aaG 51 [.agg [I 0,I 0,I 1,I 0,.aj [[I 1]]]] [] (.c (Sg Mj)) [ah 9 []]:=fit od 100 (by kernel_rfl)
def Ts:Call aaG 51 [.agg [I 1,I 0,I 1,I 0,eW]] [] (.c (Sg X9)) [ah 9 []]:=fit od 100 (by kernel_rfl)
end Go.Nx
namespace Go.Proofs.BuQ
open Go Go.Proofs Go.RowKit
def Hc:(aaG.info? 137).map (·.size)=some 2:=by kernel_rfl
def OF:liesAt aaG aaG.depth 137 (2 / aaG.cellsOf 137) 0 137 1=true:=by kernel_rfl
def MD:(aaG.info? 5).map (fun i=>(i.zero,i.size,i.bytes))=some (some (.int .u8 0),1,1):=by kernel_rfl
set_option maxRecDepth 8000 in
def abQ:Builder.Extra aaG Tryz.MX:={
 sizeBuilder:=Hc
 liesBuilder:=OF
 t5:=amd
 a5:=Tryz.isAgg5
 z5:=Tryz.sizeOf5
 v5:=amu
 infoByte:=MD
 cellsByte:=by kernel_rfl
 sizeByte:=by kernel_rfl
 neB5:=Nat.ne_of_beq_eq_false (by kernel_rfl)}
def string(B b:Nat)(l:List UInt8)(w:World)(h:alL 137 5 B b (alp l) w)(a:B<=w.heap.size):Calls aaG 52 #[.pointer (some ⟨b,0,none⟩)] w fun e c=>e= .returned (.string ⟨l.toArray⟩)/\Below B w c:=
 Any.Builder_String_any Tryz.Te abQ B b l w h a
set_option maxHeartbeats 1000000 in
set_option maxRecDepth 100000 in
theorem aaf(b:Nat)(w:World)(d:w.cell? ⟨b,0,none⟩=some (.pointer (some ⟨b,0,none⟩))):Calls aaG 93 #[.pointer (some ⟨b,0,none⟩)] w fun e a=>e= .returned (.tuple #[])/\a=w:=by
 have⟨j,c,_⟩:=ab4.1 Hc;go_enter Tryz.func93,Tryz.ntmps93
 go_wp2
 rw[Lib.run_neq_ptr_same w _ akY c];go_wp2
 go_end0
 simp
set_option maxHeartbeats 1000000 in
set_option maxRecDepth 100000 in
def Zu(b:Nat)(w:World)(g:w.cell? ⟨b,0,none⟩=some (.pointer none))(a:w.shape? b=some (137,2))(h:w.frozen? ⟨b,0,none⟩=false):Calls aaG 93 #[.pointer (some ⟨b,0,none⟩)] w fun e d=>e= .returned (.tuple #[])/\d=w.setCell ⟨b,0,none⟩ (.pointer (some ⟨b,0,none⟩)):=by
 have⟨j,c,f⟩:=ab4.1 Hc;go_enter Tryz.func93,Tryz.ntmps93
 go_wp2
 rw[Lib.run_to_unsafe w ⟨b,0,none⟩ akY Tryz.underlying285 c (by rw[f];decide) a (Nat.zero_lt_succ 1)];simp only[ajd];rw[aky];go_wp2
 rw[run_callFunc_extern Tryz.func154 (by kernel_rfl) (by kernel_rfl) (by kernel_rfl) (e:=amb) (by kernel_rfl)];rw[Lib.run_noEscape];simp only[ajd];rw[aky];go_wp2
 rw[Lib.run_from_unsafe w ⟨b,0,none⟩ Tryz.underlying285 akY c a OF];simp only[ajd];rw[aky];go_wp2
 go_end0
 simp
def check(B b:Nat)(c:List Value)(w:World)(h:alL 137 5 B b c w):Calls aaG 93 #[.pointer (some ⟨b,0,none⟩)] w fun e a=>e= .returned (.tuple #[])/\(akc 137 5 B b (.pointer (some ⟨b,0,none⟩)) c a/\Below B w a):=by
 rcases h with h|h
 .refine (Zu b w h.cell0 h.shape h.frozen0).mono ?_;rintro e a ⟨rfl,rfl⟩;exact⟨rfl,h.used _,(Below.refl B w).setCell (p:=⟨b,0,none⟩) h.1 _⟩
 grind [(Calls.mono),(BuQ.aaf),(anF),(aj4)]
set_option maxHeartbeats 2000000 in
set_option maxRecDepth 100000 in
def write(B b:Nat)(a:List Value)(s:ByteArray)(w:World)(h:alL 137 5 B b a w)(E:a.length+s.size<=140737488355328)(F:B<=w.heap.size):
  Calls aaG 50 #[.pointer (some ⟨b,0,none⟩),.string s] w fun e d=>e= .returned (.tuple #[.int .i64 s.size,.nilIface])/\(akc 137 5 B b (.pointer (some ⟨b,0,none⟩)) (a++Lib.strCells s) d/\Below B w d):=by
 have⟨n,o,q,r,t⟩:=info_parts MD
 go_enter Tryz.func50,Tryz.ntmps50
 go_wp2_with fail
 refine(check B b a _ h).mono ?_
 rintro e w1⟨rfl,u,x⟩
 have⟨y,v,f,i,G⟩:=u
 have H:w1.cell? ⟨b,0,none⟩=some (.pointer (some ⟨b,0,none⟩)):=by rw[alh f];rfl
 have c1:w1.cell? ⟨b,1,none⟩=some v:=by rw[alh f];rfl
 go_wp2_with (at_builtin;refine Lib.wpList_append_own_string _ rfl _ _ 135 9 rfl B 5 n Tryz.underlying135 alf o q r t _ _ _ rfl i s rfl ?c3 ?c4 ?c5 ?_)
 case c3=>unfold maxLen;omega
 case c4=>omega
 case c5=>grind
 intro z w2 A C _
 have I:b<w1.heap.size:=by grind
 have c:w2.heap[b]?=some (.cells #[.pointer (some ⟨b,0,none⟩),v] 137 (0,0)):=by grind [(anv)]
 have d0:w2.cell? ⟨b,0,none⟩=some (.pointer (some ⟨b,0,none⟩)):=by rw[alh c];rfl
 have d1:w2.cell? ⟨b,1,none⟩=some v:=by rw[alh c];rfl
 have f1:w2.frozen? ⟨b,1,none⟩=false:=Lib.frozen_of_heap c 1
 obtain⟨j,l,cap,rfl⟩:∃j l cap,z= .slice j l cap:=by
  rcases A.2 with⟨m,_⟩|⟨g,cap,J,m,_⟩
  .exact ⟨_,_,_,m⟩
  grind
 go_wp2
 go_ret2
 refine⟨rfl,?_,?_⟩
 .grind [(anw),(Lib.strCells_length)]
 .exact (x.grown C (by omega) (fun k D=>(i.lt k D).1)).setCell (p:=⟨b,1,none⟩) y _
end Go.Proofs.BuQ
namespace Go.Nx
open Go Go.Proofs Tryz
section
def Uf{b:az}(g:aZ b []){w:World}(h:ajb b.w.heap.size b.w w):Calls aaG 48 #[.string ⟨te.toArray⟩] w fun e c=>∃y a,e= .returned (.tuple #[y,.int .i64 0,.int .i64 0])/\a.w=c/\(b.to w).bare.cL a/\aZ a zn/\aB a (.sl 2 5 0 6) y:=by
 refine(call48.2 _ (wJ (vw g h)) #[.string ⟨te.toArray⟩] ?_).mono ?_
 .simp only[bT,aL,aB];exact⟨_,_,rfl,⟨rfl,rfl⟩,rfl⟩
 .rintro e c⟨y,a,rfl,rfl,j,k,d⟩;simp only[aL,bT,aB]at d;obtain⟨f,rfl,i,l,m,n,o,p,rfl,⟨rfl,_⟩,q,r,rfl,⟨rfl,_⟩,rfl⟩:=d;obtain rfl:f= #[i,.int .i64 0,.int .i64 0]:=by cases f;simp_all
  grind [aB]
def Told(w:World)(b o:Nat)(y:Value):Prop:=
 w.cell? ⟨b,o,none⟩=some (.int .i64 6)/\w.cell? ⟨b,o+1,none⟩=some (.int .i64 1)/\w.cell? ⟨b,o+2,none⟩=some (.int .i64 0)/\w.cell? ⟨b,o+3,none⟩=some (.int .i64 0)/\w.cell? ⟨b,o+4,none⟩=some (.slice none 0 0)/\
 w.cell? ⟨b,o+5,none⟩=some (.int .i64 6)/\w.cell? ⟨b,o+6,none⟩=some (.int .i64 0)/\w.cell? ⟨b,o+7,none⟩=some (.int .i64 0)/\w.cell? ⟨b,o+8,none⟩=some (.int .i64 1)/\w.cell? ⟨b,o+9,none⟩=some (.slice none 0 0)/\
 w.cell? ⟨b,o+10,none⟩=some (.int .i64 0)/\w.cell? ⟨b,o+11,none⟩=some (.int .i64 0)/\w.cell? ⟨b,o+12,none⟩=some (.int .i64 1)/\w.cell? ⟨b,o+13,none⟩=some (.int .i64 0)/\w.cell? ⟨b,o+14,none⟩=some y/\
 w.cell? ⟨b,o+15,none⟩=some (.int .i64 1)/\w.cell? ⟨b,o+16,none⟩=some (.int .i64 0)/\w.cell? ⟨b,o+17,none⟩=some (.int .i64 1)/\w.cell? ⟨b,o+18,none⟩=some (.int .i64 0)/\w.cell? ⟨b,o+19,none⟩=some (.slice none 0 0)
def Uw{c:az}(q:aZ c zn){y f:Value}(V:aB c (.sl 2 5 0 6) y)(W:aB c (.aj []) f):Calls aaG 49 #[.agg #[.int .i64 2,f],.agg #[.int .i64 2,.int .i64 8,.int .i64 1,.int .i64 8,.int .i64 9],y] c.w fun e g=>∃b o cap z d a,e= .returned (.tuple #[.slice (some ⟨b,o,none⟩) 4 cap,z,.int .i64 0])/\a.w=g/\c.cL a/\aZ a Ct/\Told g b o d/\aB a.bare (.aj [[I 1]]) d:=by
 refine(call49.2 _ q #[.agg #[.int .i64 2,f],.agg #[.int .i64 2,.int .i64 8,.int .i64 1,.int .i64 8,.int .i64 9],y] ?_).mono ?_
 .simp only[bT,aL,aY];grind [aB,aiw]
 .rintro e g⟨r,a,rfl,rfl,s,i,j⟩;simp only[aL,bT]at j;obtain⟨t,rfl,u,X,Y,k,v,Z,rfl,_,y4,aa,rfl,l,rfl⟩:=j;simp only[aB]at l k;obtain⟨rfl,_⟩:=l;obtain rfl:t= #[u,v,.int .i64 0]:=by grind
  obtain⟨ab,ad,ae,cap,x,_,rfl,A⟩:=k;have⟨af,m,k2,n⟩:=i.obj WT;rw[x]at m;cases m;rcases A rfl with⟨p,_⟩|⟨b,a',p,rfl,rfl,ag,B⟩
  .omega
  .simp only[p]at n;have⟨C,_,_,_,_,cells,ah,m6,m7,h⟩:=n;obtain rfl:=B (by omega);rw[C]at h;simp only[Rb,bE,cR,aB,and_true,true_and,aip,aiQ]at h;obtain⟨⟨⟨_,D,rfl,_⟩,⟨_,E,rfl,_⟩,⟨_,F,rfl,_⟩,⟨_,G,rfl,_⟩,⟨_,H,rfl,_⟩⟩,⟨⟨_,J,rfl,_⟩,⟨_,K,rfl,_⟩,⟨_,L,rfl,_⟩,⟨_,M,rfl,_⟩,⟨_,N,rfl,_⟩⟩,⟨⟨_,c20,rfl,_⟩,⟨_,c21,rfl,_⟩,⟨_,O,rfl,_⟩,⟨_,P,rfl,_⟩,⟨d,Q,R⟩⟩,⟨⟨_,S,rfl,_⟩,⟨_,T,rfl,_⟩,⟨_,U,rfl,_⟩,⟨_,xY,rfl,_⟩,⟨_,og,rfl,_⟩⟩⟩:=h;rw[akX,aiB];refine⟨b,_,_,_,d,a,rfl,rfl,s,i,⟨D,E,F,G,H,J,K,L,M,N,c20,c21,O,P,Q,S,T,U,xY,og⟩,?_⟩;simp only[bE,cR,aB,and_true,true_and,aip,aiQ];exact R
def eZ{a:az}{i:List Ob}(d:aZ a i){w:World}(j:ajb a.w.heap.size a.w w){l:List ab}{s:List UInt8}{k:List Ob}(hc:Call aaG 51 [.agg l] [] (.c (Sg s)) k){b:Array Value}(m:aY a.bare l b.toList):Calls aaG 51 #[.agg b] w fun e f=>e= .returned (.string ⟨s.toArray⟩)/\ajb w.heap.size w f:=by
 have g:ajb a.bare.w.heap.size a.bare.w w:=j;refine(GF hc (Γ:=a.bare.to w) (vw (wJ d) g) (args':= #[.agg b]) ?_).mono ?_
 .simp only[bT,aL];exact⟨_,_,rfl,⟨_,rfl,G9 (zJ (wJ d) g) _ _ m⟩,rfl⟩
 .rintro e f⟨y,o,rfl,rfl,n,p,h⟩;simp only[aL,aB]at h;obtain⟨rfl,_⟩:=h;exact⟨rfl,n⟩
def gu{w b:World}(c:ajb w.heap.size w b){a:Addr}{v:Value}(h:w.cell? a=some v):b.cell? a=some v:=by grind [World.cell?,(RowKit.Below.cell)]
def rJ{T e:TypeId}{B b:Nat}{p:Value}{c:List Value}{w d:World}(h:akc T e B b p c w)(o:ajb w.heap.size w d):akc T e B b p c d:=by
 have q:=h.lt;have⟨f,v,r,⟨i,a⟩,j⟩:=h;refine⟨f,v,by grind [(am7)],⟨i,?_⟩,j⟩;rcases a with a|⟨g,cap,k,l,m,s,n⟩
 .exact .inl a
 .have t:g<w.heap.size:=by grind
  exact .inr ⟨g,cap,k,l,m,by grind [(am7)],n⟩
set_option maxRecDepth 100000 in
def afp{b:az}(X:aZ b [])(n:Value)(Y:∀Z,aB Z (.aj []) n):Calls aaG 25 #[.agg #[.int .i64 2,n],.agg #[.int .i64 2,.int .i64 8,.int .i64 1,.int .i64 8,.int .i64 9],.string ⟨te.toArray⟩] b.w fun e w'=>e= .returned (.tuple #[.string ⟨wK.toArray⟩,.int .i64 0,.int .i64 0])/\ajb b.w.heap.size b.w w':=by
 go_enter func25,ntmps25
 go_wp2_with fail
 have t:ajb b.w.heap.size b.w ((b.w.alloc (Obj.cells #[ajo adW 2,n] 24)).alloc (Obj.cells #[ajo adW 2,ajo adW 8,ajo adW 1,ajo adW 8,ajo adW 9] 26)):=((aj4 _ _).alloc (ad3 _) _).alloc (by simp) _;refine(Uf X t).mono ?_;rintro e w1 ⟨aQ,i,rfl,rfl,F,aa,hy⟩;have j:=HM F;have d0:i.w.cell? ⟨b.w.heap.size,0,none⟩=some (.int .i64 2):=gu j (by simp[go_sem,az.to]);have d1:i.w.cell? ⟨b.w.heap.size,1,none⟩=some n:=gu j (by simp[go_sem,az.to]);have e0:i.w.cell? ⟨b.w.heap.size+1,0,none⟩=some (.int .i64 2):=gu j (by simp[go_sem,az.to]);have e1:i.w.cell? ⟨b.w.heap.size+1,1,none⟩=some (.int .i64 8):=gu j (by simp[go_sem,az.to]);have e2:i.w.cell? ⟨b.w.heap.size+1,2,none⟩=some (.int .i64 1):=gu j (by simp[go_sem,az.to]);have e3:i.w.cell? ⟨b.w.heap.size+1,3,none⟩=some (.int .i64 8):=gu j (by simp[go_sem,az.to]);have e4:i.w.cell? ⟨b.w.heap.size+1,4,none⟩=some (.int .i64 9):=gu j (by simp[go_sem,az.to]);go_wp2_with fail
 refine(Uw aa hy (Y _)).mono ?_;rintro e w2 ⟨aR,aS,cap,aT,y3,a,rfl,rfl,ab,o,ht,k⟩;have G:ajb b.w.heap.size b.w a.w:=t.trans ((HM (F.trans ab)).mono t.size);go_wp2_with fail
 have u:akc 137 5 a.w.heap.size a.w.heap.size (.pointer none) [] (a.w.alloc (.cells #[.pointer none,.slice none 0 0] 137)):=⟨ad3 _,.slice none 0 0,heap_alloc_new _ _,⟨rfl,.inl ⟨rfl,rfl⟩⟩,by simp[Value.ownBlock]⟩;have c:ajb a.w.heap.size a.w (a.w.alloc (.cells #[.pointer none,.slice none 0 0] 137)):=(aj4 _ _).alloc (ad3 _) _;generalize(a.w.alloc (.cells #[.pointer none,.slice none 0 0] 137))=W0 at u c|-;have⟨ad,ae,af,ag,ah,ai,ld,ak,al,am,c20,c21,an,ao,ap,aq,ar,au,xY,og⟩:=ht
 obtain⟨l,m,rfl⟩:∃l m,y3= .slice (some l) 1 m:=by
  simp only[aB]at k;rcases k with⟨_,h⟩|⟨l,m,_,h,_⟩
  .cases h
  .exact ⟨l,m,h⟩
 refine wp_loop_rounds 5 ?_;rw[rounds_succ];have av:=gu c ad;have aw:=gu c ae;have ax:=gu c af;have ay:=gu c ag;have aA:=gu c ah;go_wp2_with fail
 have p:=c.alloc c.size (.cells #[.int .i64 6,.int .i64 1,.int .i64 0,.int .i64 0,.slice none 0 0] 43);refine(eZ o p ZQ ?_).mono ?_
 .simp only[aY];refine⟨_,_,rfl,?_,_,_,rfl,?_,_,_,rfl,?_,_,_,rfl,?_,_,_,rfl,?_,rfl⟩<;>first|exact k|simp[aB,aiw]
 rintro e u0⟨rfl,x⟩;have H:=rJ (rJ u ((aj4 _ _).alloc (ad3 _) _)) x;have y:=p.trans (x.mono p.size);go_wp2_with fail
 refine(BuQ.write _ _ _ _ _ (.inl H) (ajR (by kernel_rfl)) y.size).mono ?_;rintro e W1 ⟨rfl,I,J⟩;have K:akc 137 5 a.w.heap.size a.w.heap.size (.pointer (some ⟨a.w.heap.size,0,none⟩)) (alp (yu)) W1:=I;have d:=y.trans J;clear I H u x p y J c av aw ax ay aA;go_wp2_with fail
 rw[rounds_succ];have aC:=gu d ai;have aD:=gu d ld;have aE:=gu d ak;have aF:=gu d al;have aG:=gu d am;go_wp2_with fail
 have q:=d.alloc d.size (.cells #[.int .i64 6,.int .i64 0,.int .i64 0,.int .i64 1,.slice none 0 0] 43);refine(eZ o q Y5 ?_).mono ?_
 .simp only[aY];refine⟨_,_,rfl,?_,_,_,rfl,?_,_,_,rfl,?_,_,_,rfl,?_,_,_,rfl,?_,rfl⟩<;>first|exact k|simp[aB,aiw]
 rintro e u1⟨rfl,z⟩;have L:=rJ (rJ K ((aj4 _ _).alloc (ad3 _) _)) z;have A:=q.trans (z.mono q.size);go_wp2_with fail
 refine(BuQ.write _ _ _ _ _ (.inr L) (ajR (by kernel_rfl)) A.size).mono ?_;rintro e W2 ⟨rfl,M,N⟩;have O:akc 137 5 a.w.heap.size a.w.heap.size (.pointer (some ⟨a.w.heap.size,0,none⟩)) (alp (yu++JF)) W2:=M;have f:=A.trans N;clear M L K z q A N d aC aD aE aF aG;go_wp2_with fail
 rw[rounds_succ];have aH:=gu f c20;have aI:=gu f c21;have q22:=gu f an;have q23:=gu f ao;have q24:=gu f ap;go_wp2_with fail
 have r:=f.alloc f.size (.cells #[.int .i64 0,.int .i64 0,.int .i64 1,.int .i64 0,.slice (some l) 1 m] 43);refine(eZ o r YJ ?_).mono ?_
 .simp only[aY];refine⟨_,_,rfl,?_,_,_,rfl,?_,_,_,rfl,?_,_,_,rfl,?_,_,_,rfl,?_,rfl⟩<;>first|exact k|simp[aB,aiw]
 rintro e u2⟨rfl,B⟩;have P:=rJ (rJ O ((aj4 _ _).alloc (ad3 _) _)) B;have C:=r.trans (B.mono r.size);go_wp2_with fail
 refine(BuQ.write _ _ _ _ _ (.inr P) (ajR (by kernel_rfl)) C.size).mono ?_;rintro e W3 ⟨rfl,Q,R⟩;have S:akc 137 5 a.w.heap.size a.w.heap.size (.pointer (some ⟨a.w.heap.size,0,none⟩)) (alp (yu++JF++Mj)) W3:=Q;have g:=C.trans R;clear Q P O B r C R f aH aI q22 q23 q24;go_wp2_with fail
 rw[rounds_succ];have aJ:=gu g aq;have aK:=gu g ar;have aL:=gu g au;have aM:=gu g xY;have aN:=gu g og;go_wp2_with fail
 have s:=g.alloc g.size (.cells #[.int .i64 1,.int .i64 0,.int .i64 1,.int .i64 0,.slice none 0 0] 43);refine(eZ o s Ts ?_).mono ?_
 .simp only[aY];refine⟨_,_,rfl,?_,_,_,rfl,?_,_,_,rfl,?_,_,_,rfl,?_,_,_,rfl,?_,rfl⟩<;>first|exact k|simp[aB,aiw]
 rintro e u3⟨rfl,D⟩;have T:=rJ (rJ S ((aj4 _ _).alloc (ad3 _) _)) D;have E:=s.trans (D.mono s.size);go_wp2_with fail
 refine(BuQ.write _ _ _ _ _ (.inr T) (ajR (by kernel_rfl)) E.size).mono ?_;rintro e W4 ⟨rfl,U,V⟩;have aO:akc 137 5 a.w.heap.size a.w.heap.size (.pointer (some ⟨a.w.heap.size,0,none⟩)) (alp (wK)) W4:=U;have W:=E.trans V;clear U T S D s E V g aJ aK aL aM aN;go_wp2_with fail
 rw[rounds_succ];go_wp2_with fail
 refine(BuQ.string _ _ wK _ (.inr aO) W.size).mono ?_;rintro e w9 ⟨rfl,aP⟩;have aU:ajb b.w.heap.size b.w w9:=G.trans ((W.trans aP).mono G.size);go_wp2
 refine bodyPost_ret (v:= .tuple #[.string ⟨wK.toArray⟩,.int .i64 0,.int .i64 0]) ?_ rfl ?_
 .simp[results,Tryz.results25]
 grind
end
def TJ{d:List aw}{H:List Ob}{r:aw}{f:List Ob}(h:zV d H=some (r,f)):Call aaG 25 d H r f:=by
 unfold zV at h;split at h
 .split at h
  .rename_i a s q;split at h
   .rename_i B;cases h;obtain⟨g,rfl,C⟩:=wq q;obtain rfl:g=⟨te.toArray⟩:=by have⟨⟨x⟩⟩:=g;grind
    refine⟨by kernel_rfl,fun t c u hc=>?_⟩;simp only[bT,aL,aY]at hc;obtain⟨y,D,E,⟨z,rfl,F,G,I,i,b,J,rfl,K,rfl⟩,L,M,rfl,⟨v,rfl,N,O,P,j,Q,w1,rfl,k,R,w2,rfl,l,S,w3,rfl,m,T,w4,rfl,n,rfl⟩,U,V,rfl,o,rfl⟩:=hc;have hn:∀w,aB w (.aj []) b:=by grind [aB]
    simp only[aB]at i j k l m n o;obtain⟨rfl,_⟩:=i;obtain⟨rfl,_⟩:=j;obtain⟨rfl,_⟩:=k;obtain⟨rfl,_⟩:=l;obtain⟨rfl,_⟩:=m;obtain⟨rfl,_⟩:=n;obtain⟨rfl,_⟩:=o;obtain rfl:z= #[.int .i64 2,b]:=by grind
    obtain rfl:v= #[.int .i64 2,.int .i64 8,.int .i64 1,.int .i64 8,.int .i64 9]:=by grind
    obtain rfl:u= #[.agg #[.int .i64 2,b],.agg #[.int .i64 2,.int .i64 8,.int .i64 1,.int .i64 8,.int .i64 9],.string ⟨te.toArray⟩]:=by grind
    refine(afp c b hn).mono ?_;rintro e A ⟨rfl,p⟩;refine⟨_,t.to A,rfl,rfl,Q3 c p,vw c p,?_⟩;simp only[aL,bT];exact⟨_,rfl,_,_,rfl,⟨rfl,rfl⟩,_,_,rfl,⟨rfl,rfl⟩,_,_,rfl,⟨rfl,rfl⟩,rfl⟩
   .cases h
  .cases h
 .cases h
noncomputable abbrev Kx:bu:=ky [52,25] tz.dF
def abF:gU Kx:=zL [52,25] tz.dF (by decide) (fun f c H r d e a=>by
 have b:f=52\/f=25:=by grind
 rcases b with rfl|rfl
 .exact wE W4 (by decide) a
 .exact TJ (gB W4 (h:=zV) (by kernel_rfl) a))
noncomputable def Xk:List Ob:=((bB Kx (run Kx 60) 7 [] []).getD (.c eW,[])).2
def call7:Call aaG 7 [] [] (aR true) Xk:=xH (n:=60) abF (by kernel_rfl)
def o7:Call aaG 7 [] [] (aR true) []:=⟨call7.1,fun j l a hc=>(call7.2 j l a hc).mono fun e s ⟨y,f,m,n,b,d,t⟩=>by
 have q:j.hs=[]:=ae4 l.len.symm;have r:=wJ d
 refine⟨y,⟨f.w,f.F,f.X,[]⟩,m,n,⟨⟨b.le.F,b.le.mem,fun h i v k=>?_⟩,b.os,b.tape,b.output,b.size,b.frame,b.mF,b.lj⟩,⟨rfl,fun h o g=>by simp at g,fun h _ _ _ o _ _ _ _ g=>by simp at g,d.F,d.X,fun p hp=>⟨(d.G p hp).1,by
  have c:=r.G p hp
  simp only[sK,aeM,aiV,or_false]at hp
  rcases hp with rfl|rfl
  .have ⟨_,c⟩:=c
   simp only[li,ag9,aiU,bE,cR,aB]at c|-
   exact c
  .have ⟨_,c⟩:=c
   simp only[bE,cR,aB]at c|-
   exact c⟩⟩,?_⟩
 .rw[q]at k;simp at k
 grind [aL,aB]⟩
def abU:gU (@tz W1):=SO o7
def hA:aS (@tz W1) (bB (@tz W1) (ev (@tz W1))) 0 7 []=some (aR true,[]):=by rfl
instance iW12:W:=W1
def Vc(H:List Ob)(x:Int):aO tz ay 297 [aa x] H=some (aR (decide (x<1)),H):=by
 have h:aS tz ay 0 297 [aa x]=some (aR (decide (x<1)),[]):=by refine be func297 rfl ?_;simp[f297]
 simp[h]
def agN(H:List Ob)(c:List Int)(e:Edge)(r:0<=e.a/\e.a<c.length)(s:0<=e.b/\e.b<c.length):aO tz ay 298 [.agg (j7 e),.c (.aJ [[.aj (c.map aC)]] 0 0)] H=some (aR (decide (bD c e.a=bD c e.b)),H):=by
 obtain⟨x,d⟩:∃x:Nat,e.a=x:=⟨e.a.toNat,by omega⟩;obtain⟨y,f⟩:∃y:Nat,e.b=y:=⟨e.b.toNat,by omega⟩;have g:x<c.length:=by omega
 have i:y<c.length:=by omega
 have n:=bi c
 have h:aS tz ay 0 298 [.agg (j7 e),.c (.aJ [[.aj (c.map aC)]] 0 0)]=some (aR (decide (bD c e.a=bD c e.b)),[]):=by
  refine be func298 rfl ?_;have⟨u,j⟩:=eg (bD c e.a);have⟨v,k⟩:=eg (bD c e.b);have l:(c.map aC)[x]?=some [I u]:=by rw[adf,abM g, <-j,d,pz g];rfl
  have m:(c.map aC)[y]?=some [I v]:=by rw[adf,abM i, <-k,f,pz i];rfl
  have⟨R,o⟩:=eg (c.map aC);have t:R.length=c.length:=by grind
  rw[o]at l m|-;rw[j,k];simp only[j7,d,f];have p:x<R.length:=by omega
  have q:y<R.length:=by omega
  simp[-getElem?_pos,f298,l,m,p,q]
 simp only[j7]at h|-;simp[h,n,bA]
def ZV{g:Gr}{c:List Int}(f:fa g=true)(s:c.length=g.n.toNat)(t:∀i:Nat,i<g.n.toNat->1<=bD c i)(hp:∀e∈g.bw,bD c e.a≠bD c e.b):aS tz ay 0 247 [.agg (bQ g),bh (c.map aC)]=some (aR true,[]):=by
 refine be func247 rfl ?_;have⟨u,v,w,_,_⟩:=(nD g).1 f;have j:=vX f;have d:=xW g (by omega);rw[if_pos f]at d;have o:c.any (fun x=>decide (x<1))=false:=by grind [(ajZ),(pz)]
 have p:g.bw.any (fun e=>decide (bD c e.a=bD c e.b))=false:=by grind
 have k:=vL (g:=297) (caps:=[]) c (by unfold maxLen;omega) (fun x=>decide (x<1)) (by simp) rfl (bi _) (fun x _=>Vc [] x);have h:=SB (g:=298) (caps:=[.aJ [[.aj (c.map aC)]] 0 0]) g.bw (by unfold maxLen;omega) (fun e=>decide (bD c e.a=bD c e.b)) (by simp) (by simp) (jU _) (fun e l=>agN [] c e (by have:=j.e e l;omega) (by have:=j.e e l;omega));rw[o]at k;rw[p]at h;have q:=bi c;have m:=jU g.bw;have hn:(c.length:Int)=g.n:=by omega
 simp only[bQ]at d|-;have⟨E,r⟩:=eg (g.bw.map j7);rw[r]at d h m|-;simp[-aD,f247,hn];simp[f247,d,k,h,q,m,hn,eO]
section
variable{H:List Ob}{q:ab}{l:List aI}{g:Gr}
def mz(H:List Ob)(q:ab)(l:List aI):Prop:=(l=[]/\q=eW)\/∃h v,l≠ []/\q= .sl h v 0 l.length/\H[h]?=some (.live v 8 (l.map ax))
theorem mz.aK{H':List Ob}(h:mz H q l)(b:∀m∈rf q,H'[m]?=H[m]?):mz H' q l:=by
 rcases h with h|⟨h,v,a,rfl,c⟩
 .exact .inl h
 .exact .inr ⟨h,v,a,rfl,by grind [rf]⟩
theorem mz.lt(h:mz H q l):∀m∈rf q,m<H.length:=by
 rcases h with⟨_,rfl⟩|⟨h,v,a,rfl,b⟩
 .intro m hm;simp[rf]at hm
 grind [rf]
def uv(H:List Ob)(q:ab)(D:Nat->cQ)(n:Nat):Prop:=(n=0/\q=eW)\/∃h v rows,n≠0/\q= .sl h v 0 n/\H[h]?=some (.live v 3 rows)/\rows.length=n/\∀k,k<n->∃r,rows[k]?=some [I (D k).id,I (D k).phase,r]/\mz H r (D k).af
def mQ(l:List aI):ab:=if l=[]then eW else .aj (l.map ax)
def pL(d:cQ):List ab:=[I d.id,I d.phase,mQ d.af]
def nr(D:Nat->cQ)(n:Nat):ab:=if n=0 then eW else .aj ((aiZ n).map fun i=>pL (D i))
theorem xo(l:List aI):bC (mQ l)=true:=by grind [mQ,bC,(bK)]
theorem mz.view(h:mz H q l)(m:Nat):∃c,bU H (m+1) q=some (mQ l,c):=by
 rcases h with⟨rfl,rfl⟩|⟨h,v,d,rfl,a⟩
 .exact ⟨[],by simp[mQ]⟩
 .have b:=um (lo:=0) (len:=(l.map ax).length) a (by simp);rw[akn,aiF,aio]at b;have:=zF (n:=m) a b (bK l);grind [mQ]
theorem Rv{g:ab->Option (ab×List Nat)}:∀(rows a:List (List ab)),rows.length=a.length->(∀k (h:k<rows.length) (j:k<a.length), ∃b,eX g rows[k]=some (a[k],b))->∃b,jR g rows=some (a,b)
 |[],[],_,_=>⟨[],rfl⟩
 |[],_::_,h,_=>by simp at h
 |_::_,[],h,_=>by simp at h
 |r::c,l::d,m,h=>by
  have⟨e,f⟩:=h 0 (by simp) (by simp)
  have⟨i,n⟩:=Rv c d (by grind) fun k o p=>h (k+1) (by simp;omega) (by simp;omega)
  simp only[List.getElem_cons_zero]at f
  exact⟨e++i,by grind [jR]⟩
theorem aet{rows rows':List (List ab)}(d:rows.length=rows'.length)(h:∀k (h:k<rows.length) (m:k<rows'.length), ∃b,eX (bU H 6) rows[k]=some (rows'[k],b)):∃b,jb (bU H 6) rows=some (rows',b):=by
 unfold jb;split
 .rename_i f
  have:rows=rows':=by
   refine List.ext_getElem d fun k c g=>?_;have⟨b,e⟩:=h k c g
   have i:cy rows[k]=true:=by
    have j:∀(l:List (List ab)) (k:Nat) (c:k<l.length),bA l=true->cy l[k]=true:=by
     intro l;induction l with
     |nil=>simp
     |cons a r n=>grind [bA]
    exact j rows k c f
   rw[mR i]at e;injection e with e;injection e
  exact⟨[],by rw[this]⟩
 .exact Rv rows rows' d h
theorem uv.view{H:List Ob}{q:ab}{D:Nat->cQ}{n:Nat}(h:uv H q D n):fh true H ([],[]) q=some (nr D n,[],[]):=by
 rcases h with⟨rfl,rfl⟩|⟨h,v,rows,l,rfl,c,d,e⟩
 .rfl
 .have ⟨b,m⟩:=aet (H:=H) (rows:=rows) (rows':=(aiZ n).map fun i=>pL (D i)) (by simpa using d) fun k f o=>by have⟨r,a,g⟩:=e k (by omega);have⟨b,j⟩:=g.view 5;rw[abM f]at a;injection a with a;rw[a];simp only[List.getElem_map,List.getElem_range,pL];refine⟨b,?_⟩;simp only[eX];rw[j];simp
  have p:=um (lo:=0) (len:=rows.length) c (by simp);grind [obj,fh,bC,nr]
theorem acd{n i:Nat}(a:qI g n)(hn:n<=64)(b:i<n):(ec g i).length<64:=by have:=(HK a hn [] b).1;grind [(ic),dm,(jn),iD,kC,pP,rb]
theorem S7{c:List Int}(Y:fa g=true)(hl:c.length=g.n.toNat)(h1:∀i:Nat,i<g.n.toNat->1<=bD c i)(hp:∀aE∈g.bw,bD c aE.a≠bD c aE.b):
  aS tz ay 1 169 [.agg (bQ g),bh (c.map aC)]=some (.aM [.c (nr (rb g c) g.n.toNat),aa 0],[]):=by
 refine be func169 rfl ?_
 simp only[f169,cr]
 have⟨g0,a9,g4,_,_⟩:=(nD g).1 Y
 have gi:=vX Y
 have Z:=xW g (by omega)
 rw[if_pos Y]at Z
 have ad:=ZV Y hl h1 hp
 have ae:=fun i=>abu g Y i
 have hf:=bi c
 have hE:=jU g.bw
 have⟨n,hn⟩:=eg g.n.toNat
 have aV:g.n=(n:Int):=by omega
 rw[hn]at gi hl|-
 have ao:∀ag:Nat,ag<n->(c.map aC)[ag]?=some [I (bD c ag)]:=fun ag hx=>by
  rw[adf,abM (by omega),pz (by omega)];rfl
 simp only[bQ]at Z ad ae|-
 rw[aV]at Z ad ae|-
 have⟨E,aW⟩:=eg (g.bw.map j7)
 rw[aW]at Z ad ae hE|-
 have⟨R,hR⟩:=eg (c.map aC)
 have aF:R.length=n:=by rw[<-hR];simpa using hl
 rw[hR]at ad hf ao|-
 refine bp [(2,.c (.aJ [[I n,.aj E]] 0 0)),(1,bh R)] (fun G=>G=[]) ?_ ?_
 .simp
 rintro A G⟨O,P,_⟩rfl
 refine bp [(2,.c (.aJ [[I n,.aj E]] 0 0)),(1,bh R)] (fun G=>G=[]) ?_ ?_
 .simp[O,P,Z,hE]
 rintro A G⟨O,P,_⟩rfl
 refine bp [(2,.c (.aJ [[I n,.aj E]] 0 0)),(1,bh R)] (fun G=>G=[]) ?_ ?_
 .simp[O,P,ad,hE,hf]
 rintro A G⟨O,P,_⟩rfl
 refine bp [(2,.c (.aJ [[I n,.aj E]] 0 0)),(1,bh R),(7,.c eW)] (fun G=>G=[]) ?_ ?_
 .simp[O,P]
 rintro A G⟨O,P,a7,_⟩rfl
 rw[iM]
 refine Ends.sq ?_
 refine bp [(1,bh R),(2,.c (.aJ [[I n,.aj E]] 0 0)),(23,aa n),(24,aa (0:Nat)),(7,.c eW)] (fun G=>G=[]) ?_ ?_
 .simp[P,O,a7]
 rintro A G e rfl
 rw[eC]
 refine iv (fun p:Nat×ab=>[(1,bh R),(2,.c (.aJ [[I n,.aj E]] 0 0)),(23,aa n),(24,aa p.1),(7,.c p.2)]) (fun p G=>p.1<=n/\uv G p.2 (rb g c) p.1) (fun p=>n-p.1) ?_ (0,eW) e ⟨by omega,.inl ⟨rfl,rfl⟩⟩ fun _=>rfl
 rintro⟨i,q⟩A G⟨s,t,w,o,x,_⟩⟨g2,g3⟩
 simp only at s t w o x g2 g3
 by_cases d:i<n
 case neg=>
  have hi:i=n:=by omega
  rw[hi]at g3 o
  simp[-fh,s,t,w,o,x]
  rw[g3.view]
  rfl
 rw[fQ]
 refine bp [(1,bh R),(2,.c (.aJ [[I n,.aj E]] 0 0)),(23,aa n),(24,aa i),(7,.c q)] (fun ap=>ap=G) ?_ ?_
 .simp[s,t,w,o,x,d]
 rintro A U e V
 obtain rfl:G=U:=V.symm
 simp at e
 have⟨s,t,w,o,x⟩:=e
 have hw:adW.wrap ((i:Int)+1)=((i+1:Nat):Int):=cv (by omega)
 have⟨b,hb⟩:=eg G.length
 have⟨f,aG⟩:=eg (ec g i)
 have aq:=F8 gi d
 have aX:=acd gi (by omega) d
 have aH:=ae i
 have aY:(rb g c i).af=f.map (io c i):=by rw[<-aG];rfl
 rw[aG]at aq aX aH
 refine eh (fun S=>S.bG=[]/\∃q',Has S.env [(1,bh R),(2,.c (.aJ [[I n,.aj E]] 0 0)),(23,aa n),(24,aa i),(7,.c q')]/\uv S.heap q' (rb g c) (i+1)) ?_ ?_
 .rw[eC]
  refine Ends.bl ?_
  rw[fQ]
  refine bp [(1,bh R),(2,.c (.aJ [[I n,.aj E]] 0 0)),(23,aa n),(24,aa i),(7,.c q),(8,aa i),(9,au b)] (fun ap=>ap=G++[ah 3 [[I i,I 0,eW]]]) ?_ ?_
  .simp[s,t,w,o,x,hb]
  rintro A U e V
  have t1:U[b]?=some (ah 3 [[I i,I 0,eW]]):=by rw[V, <-hb];simp
  have low:∀m,m<b->U[m]?=G[m]?:=fun m hm=>by rw[V,abE (by omega)]
  have ai:U.length=b+1:=by rw[V];simp;omega
  clear V
  refine eh (fun S=>S.bG=[]/\∃r,Has S.env [(1,bh R),(2,.c (.aJ [[I n,.aj E]] 0 0)),(23,aa n),(24,aa i),(7,.c q),(9,au b)]/\S.heap[b]?=some (ah 3 [[I i,I 0,r]])/\mz S.heap r (f.map (io c i))/\(∀m,m<b->S.heap[m]?=G[m]?)) ?_ ?_
  .refine bp [(1,bh R),(2,.c (.aJ [[I n,.aj E]] 0 0)),(23,aa n),(24,aa i),(7,.c q),(8,aa i),(9,au b),(31,bd (b+1) 0 0 f.length),(32,aa f.length),(33,aa (0:Nat))] (fun G=>G=U++[ah 1 (f.map aC)]) ?_ ?_
   .simp at e
    have⟨s,t,w,o,x,b8,J⟩:=e
    simp[s,t,w,o,x,b8,J,aH,cw,hE,ai]
   rintro A G3 e ak
   have aI:G3[b]?=some (ah 3 [[I i,I 0,eW]]):=by rw[ak,abE (by omega)];exact t1
   have aL:G3[b+1]?=some (ah 1 (f.map aC)):=by rw[ak, <-ai];simp
   have aN:∀m,m<b->G3[m]?=G[m]?:=fun m hm=>by rw[ak,abE (by omega)];exact low m hm
   clear ak t1 low ai
   rw[eC]
   refine Ends.bl (gM (fun p:Nat×ab=>[(1,bh R),(2,.c (.aJ [[I n,.aj E]] 0 0)),(23,aa n),(24,aa i),(7,.c q),(8,aa i),(9,au b),(31,bd (b+1) 0 0 f.length),(32,aa f.length),(33,aa p.1)]) (fun p G'=>p.1<=f.length/\G'[b]?=some (ah 3 [[I i,I 0,p.2]])/\G'[b+1]?=some (ah 1 (f.map aC))/\mz G' p.2 ((f.take p.1).map (io c i))/\(∀m∈rf p.2,b+1<m)/\∀m,m<b->G'[m]?=G[m]?) [] (fun p=>f.length-p.1) _ [1,2,23,24,7,8,9,31,32,33] (fun _=>rfl) ?_ (0,eW) _ e ⟨by omega,aI,aL,.inl ⟨rfl,rfl⟩,by simp[rf],aN⟩ rfl)
   clear e aI aL aN s t w o x
   rintro⟨j,r⟩⟨A,G4,ds⟩e⟨g2,z,F,C,k4,M⟩g6
   simp only at e g2 z F C k4 M g6
   subst g6
   simp at e
   have⟨s,t,w,o,x,b8,J,ar,av,aw⟩:=e
   by_cases Q:j<f.length
   case neg=>
    have hj:f.take j=f:=acu (by omega)
    rw[hj]at C
    simp[-ajc,-akL,s,t,w,o,x,b8,J,ar,av,aw,Q]
    exact⟨r,z,C,M⟩
   obtain⟨y,hy⟩:∃y:Nat,f[j]=y:=⟨f[j].toNat,by have:=aq _ (aix Q);omega⟩
   have az:y<n:=by have:=aq _ (aix Q);omega
   have m1:(f.map aC)[j]?=some [I y]:=by rw[adf,abM Q,hy];rfl
   have m2:=ao i d
   have m3:=ao y az
   have aO:adW.wrap ((j:Int)+1)=((j+1:Nat):Int):=cv (by omega)
   have⟨L,hL⟩:=eg ((f.take j).map (io c i))
   have bb:L.length<=64:=by rw[<-hL];simp;omega
   have ho:(f.take (j+1)).map (io c i)=L++[io c i y]:=by
    rw[aiH,abM Q,hy,aid,hL];rfl
   rw[hL]at C
   have⟨u,hu⟩:=eg (bD c (i:Int))
   have⟨v,hv⟩:=eg (bD c (y:Int))
   have al:ax (io c i y)=[I y,I 1,I 0,B (decide (u>v)),B (decide (u>v)),B (!decide (u>v)),B (decide (u>v)),B (!decide (u>v))]:=by simp only[io,ax,hu,hv]
   rw[hu]at m2
   rw[hv]at m3
   have⟨S1,aA⟩:=eg (ax (io c i y))
   rw[aA]at al
   have⟨NR,am⟩:=eg (f.map aC)
   have aP:NR.length=f.length:=by rw[<-am];simp
   rw[am]at F m1
   have aQ:=bf F
   have bc:f.length<=NR.length:=by omega
   have iR:i<R.length:=by omega
   have yR:y<R.length:=by omega
   have gb:∀K,(G4++K)[b]?=some (ah 3 [[I i,I 0,r]]):=fun K=>by rw[abE (bf z)];exact z
   have⟨aZ,ht⟩:=eg (decide (v<u))
   have a0:decide (u>v)=aZ:=ht
   rw[a0]at al
   rcases C with⟨a1,rfl⟩|⟨h,H,a2,rfl,T⟩
   .simp[-ajc,-akL,-getElem?_pos,-ad0,s,t,w,o,x,b8,J,ar,av,aw,Q,m1,m2,m3,z,F,aO,iR,yR,d,az,aF,aP,gb,ht]
    rw[<-am]at F
    refine⟨j+1,by omega,rfl,by omega,.sl (G4.length+1) 0 0 1,ba (gb _),?_,?_,fun m hm=>?_,fun m hm=>?_⟩
    .rw[abE aQ];exact F
    .rw[ho,a1]
     refine .inr ⟨G4.length+1,0,by simp,by simp,?_⟩
     rw[aat (by omega),jh]
     simp only[aiD,ag9,aiU,aA,al]
     rfl
    .simp[rf]at hm;omega
    .rw[aat (by omega),abE (by omega)];exact M m hm
   .have W:∀K,(G4++K)[h]?=some (.live H 8 (L.map ax)):=fun K=>by rw[abE (bf T)];exact T
    have bg:b+1<h:=k4 h (by simp[rf])
    have⟨LR,aB⟩:=eg (L.map ax)
    have a3:LR.length=L.length:=by rw[<-aB];simp
    rw[aB]at T W
    have n1:L.length+1<=maxLen:=by unfold maxLen;omega
    have n2:(L.length+1)*32<=140737488355328:=by omega
    have aR:∀K aT,((G4++K).set h aT)[b]?=some (ah 3 [[I i,I 0,.sl h H 0 L.length]]):=fun K aT=>by rw[aat (by omega)];exact gb K
    have aD:LR.take L.length=LR:=acu (by omega)
    simp[-ajc,-akL,-getElem?_pos,-ad0,s,t,w,o,x,b8,J,ar,av,aw,Q,m1,m2,m3,z,F,aO,iR,yR,d,az,aF,aP,gb,ht,W,T,n1,n2,aD,a3,aR]
    rw[<-am]at F
    refine⟨j+1,by omega,rfl,by omega,.sl h (H+1) 0 (L.length+1),ba (aR _ _),?_,?_,fun m hm=>?_,fun m hm=>?_⟩
    .rw[aat (by omega),abE aQ];exact F
    .rw[ho]
     refine .inr ⟨h,H+1,by simp,by simp,?_⟩
     rw[aat (by omega),ba (W _),aid,aB]
     simp only[ag9,aiU,aA,al]
    .simp[rf]at hm;omega
    .rw[aat (by omega),aat (by omega),abE (by omega)];exact M m hm
  clear e t1 low ai
  rintro⟨A,N,ds⟩⟨rfl,r,e,z,C,M⟩
  simp only at e z C M
  simp at e
  have⟨s,t,w,o,x,J⟩:=e
  have lb:=bf z
  have gb:∀K,(N++K)[b]?=some (ah 3 [[I i,I 0,r]]):=fun K=>by rw[abE lb];exact z
  have a4:∀k,k<i->∀D,mz G D (rb g c k).af->mz N D (rb g c k).af:=fun k hk D X=>X.aK fun m hm=>M m (by have:=X.lt m hm;omega)
  have bj:∀k,(rb g c k).id=(k:Int)/\(rb g c k).phase=0:=fun k=>⟨rfl,rfl⟩
  rw[<-aY]at C
  rcases g3 with⟨rfl,rfl⟩|⟨h,H,rows,a2,rfl,T,aU,a5⟩
  .simp[-ajc,-akL,-ad0,s,t,w,o,x,J,z]
   refine .inr ⟨N.length+1,0,[[I 0,I 0,r]],by simp,rfl,by rw[jh];rfl,rfl,fun k hk=>⟨r,?_,?_⟩⟩
   .obtain rfl:k=0:=by omega
    rfl
   .obtain rfl:k=0:=by omega
    exact C.aK fun m hm=>abE (C.lt m hm)
  .have a6:h<b:=by rw[<-hb];exact bf T
   have an:N[h]?=some (.live H 3 rows):=by rw[M h a6];exact T
   have W:∀K,(N++K)[h]?=some (.live H 3 rows):=fun K=>by rw[abE (bf an)];exact an
   have n1:i+1<=maxLen:=by unfold maxLen;omega
   have n2:(i+1)*40<=140737488355328:=by omega
   have aD:rows.take i=rows:=acu (by omega)
   simp[-ajc,-akL,-ad0,s,t,w,o,x,J,z,an,W,n1,n2,aD,aU]
   refine .inr ⟨h,H+1,rows++[[I i,I 0,r]],by omega,rfl,ba (W _),by simp;omega,fun k hk=>?_⟩
   have up:∀D l,mz N D l->mz ((N++[Ob.live 0 3 [[I i,I 0,r]]]).set h (Ob.live (H+1) 3 (rows++[[I i,I 0,r]]))) D l:=fun D l X=>by
    refine X.aK fun m hm=>?_
    rw[aat,abE (X.lt m hm)]
    rintro rfl
    rcases X with⟨_,rfl⟩|⟨h',bk,_,rfl,hx⟩
    .simp[rf]at hm
    .simp[rf]at hm
     subst hm
     rw[an]at hx
     cases hx
   by_cases a8:k=i
   .subst a8
    exact⟨r,by rw[aea (by omega),aU,ajB];rfl,up _ _ C⟩
   .have ⟨D,e1,e2⟩:=a5 k (by omega)
    exact⟨D,by rw[abE (by omega)];exact e1,up _ _ (a4 k (by omega) D e2)⟩
 clear s t w o x
 rintro⟨A,N,ds⟩⟨rfl,q',e,z⟩
 simp only at e z
 simp at e
 have⟨s,t,w,o,x⟩:=e
 simp[-ad0,s,t,w,o,x,hw]
 grind
end
section
variable{g:Gr}{c:List Int}{k z n:Nat}{H:List Ob}{q:ab}{rows:List (List ab)}
def oH(D:Nat->cQ)(n:Nat):List (List ab):=(aiZ n).map fun i=>pL (D i)
def YY(D:Nat->cQ)(n:Nat):da (nr D n)= .aj (oH D n):=by
 unfold nr oH;split
 .simp_all
 .rfl
theorem VA(D:Nat->cQ)(n:Nat):bC (nr D n)=true:=by grind [nr,(jg),pL,cy,(xo),bC]
theorem Pf{b:Type}(f:b->List ab)(a:List Nat)(h:∀x,a.contains (f x).length=false/\cW a (f x)=true)(l:List b):gZ a (l.map f)=true:=by
 induction l with
 |nil=>rfl
 |cons x r c=>simp_all
theorem abh(l:List aI):fW [1] (mQ l)=true:=by
 unfold mQ;split
 .rfl
 .exact Pf _ _ (fun x=>⟨rfl,rfl⟩) _
theorem acP(D:Nat->cQ)(n:Nat):fW [1] (nr D n)=true:=by grind [nr,(Pf),pL,cW,(abh),fW]
theorem acq(l:fa g=true)(hc:pa g=some (c,k))(q:c.length=g.n.toNat)(s:∀i:Nat,i<g.n.toNat->1<=bD c i)(hp:∀e∈g.bw,bD c e.a≠bD c e.b):
  aS tz ay 1 104 [.agg (bQ g)]=some (.aM [.agg [.aj (oH (rb g c) g.n.toNat),.aj []],aa 0],[]):=by
 refine be func104 rfl ?_
 have f:=UR g l hc
 have d:=S7 l q s hp
 have h:=jU g.bw
 have⟨n,hn⟩:=eg g.n.toNat
 rw[hn]at d|-
 have t1:=YY (rb g c) n
 have t2:=VA (rb g c) n
 have t3:=acP (rb g c) n
 have t4:bA (oH (rb g c) n)=true:=jg _ (fun i=>by simp[pL,cy,xo,bC]) _
 have t0:nr (rb g c) n=eW\/∃r,nr (rb g c) n= .aj r:=by grind [nr]
 have⟨Q,m⟩:=eg (nr (rb g c) n)
 rw[m]at t0
 have⟨T,t⟩:=eg (oH (rb g c) n)
 rw[m]at d t1 t2 t3
 rw[t]at t1 t4|-
 simp only[bQ]at f d|-
 have⟨E,u⟩:=eg (g.bw.map j7)
 have⟨R,v⟩:=eg (c.map aC)
 have o:R.length=c.length:=by grind
 have p:bA R=true:=by grind [(bi)]
 have tk:R.take c.length=R:=acu (by omega)
 rw[u]at f d h|-
 rw[v]at f d
 rcases t0 with rfl|⟨r,rfl⟩
 .simp only[SR]at t1
  simp[-ajc,f104,f,d,h,p,o,tk,t1,t2,t3,t4]
 .have j:ab.aj r= .aj T:=t1
  injection j with j
  subst j
  simp only[fW]at t3
  simp only[bC]at t2
  simp[-ajc,f104,f,d,h,p,o,tk,t2,t3,t4]
def nW(d:cQ):List ab:=[I d.id,I d.phase,mQ d.af,I 0,eW]
def nf(D:Nat->cQ)(n:Nat):List (List ab):=(aiZ n).map fun i=>nW (D i)
theorem Xy(D:Nat->cQ)(n:Nat):nf D (n+1)=nf D n++[nW (D n)]:=by grind [nf,(aj2)]
def MN(D:Nat->cQ)(n:Nat):bA (nf D n)=true:=jg _ (fun i=>by simp[nW,cy,xo,bC]) _
def oR(H:List Ob)(z:Nat)(q:ab)(n:Nat)(rows:List (List ab)):Prop:=(n=0/\q=eW)\/∃h v,n≠0/\q= .sl h v 0 n/\H[h]?=some (.live v z rows)/\rows.length=n
theorem oR.view(h:oR H z q n rows)(d:bA rows=true)(e:n=0->rows=[]):fh true H ([],[]) (da q)=some (.aj rows,[],[]):=by
 rcases h with⟨rfl,rfl⟩|⟨h,v,f,rfl,a,b⟩
 .simp_all
 .have c:=um (lo:=0) (len:=rows.length) a (by simp);rw[akn,aiF,b]at c;simp_all
theorem oR.aK{H':List Ob}(h:oR H z q n rows)(c:∀m∈rf q,H'[m]?=H[m]?):oR H' z q n rows:=by
 rcases h with h|⟨h,v,a,rfl,d,b⟩
 .exact .inl h
 .exact .inr ⟨h,v,a,rfl,by grind [rf],b⟩
theorem Zy(F:fa g=true)(hc:pa g=some (c,k))(P:c.length=g.n.toNat)(Q:∀i:Nat,i<g.n.toNat->1<=bD c i)(hp:∀e∈g.bw,bD c e.a≠bD c e.b):
  aS tz ay 1 65 [.agg (bQ g)]=some (.aM [.agg [.aj (nf (rb g c) g.n.toNat),.aj []],aa 0],[]):=by
 refine be func65 rfl ?_
 simp only[f65,cr]
 have j:=acq F hc P Q hp
 have am:=((nD g).1 F).2.1
 have H:=jU g.bw
 have⟨n,hn⟩:=eg g.n.toNat
 rw[hn]at j|-
 have t4:bA (oH (rb g c) n)=true:=jg _ (fun i=>by simp[pL,cy,xo,bC]) _
 have t5:∀i,i<n->(oH (rb g c) n)[i]?=some (pL (rb g c i)):=fun i J=>by
  grind [oH]
 have t6:(oH (rb g c) n).length=n:=by simp[oH]
 have⟨T,R⟩:=eg (oH (rb g c) n)
 rw[R]at j t4 t5 t6
 simp only[bQ]at j|-
 have⟨E,S⟩:=eg (g.bw.map j7)
 rw[S]at j H|-
 refine bp [(1,.c (.aJ [[I g.n,.aj E]] 0 0)),(2,au 0)] (fun G=>G=[ah 2 [[eW,eW]]]) ?_ ?_
 .simp
 rintro l G⟨U,f,_⟩rfl
 refine bp [(4,au 1),(5,aa 0),(2,au 0)] (fun G=>G=[ah 2 [[eW,eW]],ah 2 [[.aj T,.aj []]]]) ?_ ?_
 .simp[U,f,j,H,t4]
 rintro l G⟨o,V,f,_⟩rfl
 refine bp [(4,au 1),(2,au 0)] (fun G=>G=[ah 2 [[eW,eW]],ah 2 [[.aj T,.aj []]]]) ?_ ?_
 .simp[o,V,f]
 rintro l G⟨o,f,_⟩rfl
 refine bp [(4,au 1),(6,au 2),(2,au 0)] (fun G=>G=[ah 2 [[eW,eW]],ah 2 [[.aj T,.aj []]],ah 2 [[eW,eW]]]) ?_ ?_
 .simp[o,f]
 rintro l G⟨o,W,f,_⟩rfl
 rw[iM]
 refine Ends.sq ?_
 refine bp [(2,au 0),(6,au 2),(19,bh T),(20,aa n),(21,aa (0:Nat))] (fun G=>G=[ah 2 [[eW,eW]],ah 2 [[.aj T,.aj []]],ah 2 [[eW,eW]]]) ?_ ?_
 .simp[o,W,f,t6]
 rintro l G Y rfl
 rw[eC]
 refine iv (fun i:Nat=>[(2,au 0),(6,au 2),(19,bh T),(20,aa n),(21,aa i)]) (fun i G=>i<=n/\G[0]?=some (ah 2 [[eW,eW]])/\∃q,G[2]?=some (ah 2 [[q,eW]])/\oR G 5 q i (nf (rb g c) i)/\∀m∈rf q,2<m) (fun i=>n-i) ?_ 0 Y ⟨by omega,rfl,eW,rfl,.inl ⟨rfl,rfl⟩,by simp[rf]⟩ fun _=>rfl
 rintro i l G⟨w,x,y,z,s,_⟩⟨g2,L,q,t,A,Z⟩
 by_cases d:i<n
 case neg=>
  have J:i=n:=by omega
  rw[J]at A s
  have hv:=oR.view (A.aK (H':=G.set 0 (ah 2 [[q,eW]])) fun m hm=>by grind) (MN _ _) (fun h=>by rw[h];rfl)
  have ab:(G.set 0 (ah 2 [[q,eW]]))[0]?=some (ah 2 [[q,eW]]):=ba L
  simp[-fh,w,x,y,z,s,L,t,ab]
  rw[hv]
  rfl
 have p:=t5 i d
 simp only[pL]at p
 have⟨ad,hQ⟩:=eg (mQ (rb g c i).af)
 have ae:nW (rb g c i)=[I (rb g c i).id,I (rb g c i).phase,ad,I 0,eW]:=by grind [nW]
 have r:=Xy (rb g c) i
 rw[ae]at r
 rw[hQ]at p
 have M:adW.wrap ((i:Int)+1)=((i+1:Nat):Int):=cv (by omega)
 have⟨x1,ag⟩:=eg ((rb g c i).id)
 have⟨x2,ai⟩:=eg ((rb g c i).phase)
 rw[ag,ai]at p r
 have l3:=bf t
 have B:∀K,(G++K)[0]?=some (ah 2 [[eW,eW]]):=fun K=>by grind
 have C:∀K,(G++K)[2]?=some (ah 2 [[q,eW]]):=fun K=>by grind
 rcases A with⟨rfl,rfl⟩|⟨h,v,an,rfl,u,N⟩
 .simp[-fh,-getElem?_pos,-ad0,w,x,y,z,s,t,B,C,p,d,t6,M]
  refine⟨1,by omega,rfl,by omega,.inr ⟨G.length+2,0,by simp,rfl,?_,by simp[nf]⟩,fun m hm=>by grind [rf]⟩
  rw[aat (by omega),aea (by omega),show G.length+2-G.length=2 from by omega,r]
  rfl
 .have ⟨D,ak⟩:=eg (nf (rb g c) i)
  rw[ak]at u N r
  have ao:2<h:=Z h (by simp[rf])
  have gh:∀K,(G++K)[h]?=some (.live v 5 D):=fun K=>by rw[abE (bf u)];exact u
  have O:∀K X,((G++K).set h X)[2]?=some (ah 2 [[.sl h v 0 i,eW]]):=fun K X=>by rw[aat (by omega)];exact C K
  have n1:i+1<=maxLen:=by unfold maxLen;omega
  have n2:(i+1)*72<=140737488355328:=by omega
  have al:D.take i=D:=acu (by omega)
  simp[-fh,-getElem?_pos,-ad0,w,x,y,z,s,t,B,C,O,gh,u,p,d,t6,M,n1,n2,al,N]
  refine⟨i+1,by omega,rfl,by omega,by rw[aat (by omega)];exact B _,_,ba (O _ _),.inr ⟨h,v+1,by omega,rfl,?_,by rw[r];simp;omega⟩,fun m hm=>by simp[rf]at hm;omega⟩
  grind
end
section
variable{q:ab}{n k:Nat}{g:Gr}{c:List Int}
def oR.own{H:List Ob}{z:Nat}{rows:List (List ab)}(h:oR H z q n rows)(e:bA rows=true):(n=0/\fh false H ([],[]) (da q)=some (.aj [],[],[]))\/n≠0/\∃a,fh false H ([],[]) (da q)=some (.sl 0 0 0 n,a,[ah z rows]):=by
 rcases h with⟨rfl,rfl⟩|⟨h,v,f,rfl,b,c⟩
 .simp
 .have d:=um (lo:=0) (len:=rows.length) b (by simp);rw[akn,aiF,c]at d;simp_all
def kO(g:Gr)(c:List Int)(n:Nat):List (List ab):=(aiZ n).map fun i=>aT (iD g c i)
theorem afS(g:Gr)(c:List Int)(n:Nat):kO g c (n+1)=kO g c n++[aT (iD g c n)]:=by grind [kO,(aj2)]
def GB(g:Gr)(c:List Int)(n:Nat):bA (kO g c n)=true:=jg _ (fun i=>yh _) _
def c66(H:List Ob)(d:qI g n)(hn:n<=64)(c:List Int){i:Nat}(e:i<n):aO tz ay 66 [.agg (nW (rb g c i))] H=some (.aM [.agg (aT (iD g c i)),aa 0],H):=by
 have⟨f,h⟩:=HK d hn c e;have a:=p66 (pP g c i) h (by simp[pP]);have b:dm (kC (pP g c i))=true:=f;rw[if_pos b,if_pos b]at a
 have j:df H (.agg (nW (rb g c i)))=some (.agg (cU (pP g c i)),[]):=by
  have k:cy (nW (rb g c i))=true:=by simp[nW,cy,xo,bC]
  simp only[df,mR k]
  have:da (mQ (rb g c i).af)= .aj ((rb g c i).af.map ax):=by
   unfold mQ;split
   .simp_all
   .rfl
  simp only[nW,ag9,aiU,this];rfl
 rw[aD,if_neg (by simp[eO])];simp only[r7,j,kU,show tz.md 66=1 from rfl,aeU];rw[a,jP];simp[ei,eN,dZ,aT,iD]
def sP(n:Nat)(rows:List (List ab)):aw×List Ob:=if n=0 then(.aM [.agg [.aj [],.aj []],aa 0],[])else(.aM [.agg [.sl 0 0 0 n,.aj []],aa 0],[ah 10 rows])
theorem YX(z:fa g=true)(hc:pa g=some (c,k))(Y:c.length=g.n.toNat)(Z:∀i:Nat,i<g.n.toNat->1<=bD c i)(hp:∀e∈g.bw,bD c e.a≠bD c e.b):
  aS tz ay 0 33 [.agg (bQ g)]=some (sP g.n.toNat (kO g c g.n.toNat)):=by
 have⟨n,hn⟩:=eg g.n.toNat
 have o:=Zy z hc Y Z hp
 rw[hn]at o|-
 have⟨V1,M⟩:=eg ((sP n (kO g c n)).1)
 have⟨V2,N⟩:=eg ((sP n (kO g c n)).2)
 have hV:sP n (kO g c n)=(V1,V2):=by grind
 rw[hV]
 refine be func33 rfl ?_
 simp only[f33,cr]
 have aq:=((nD g).1 z).2.1
 have O:=vX z
 rw[hn]at O
 have P:=jU g.bw
 have t4:=MN (rb g c) n
 have t5:∀i,i<n->(nf (rb g c) n)[i]?=some (nW (rb g c i)):=fun i Q=>by
  grind [nf]
 have t6:(nf (rb g c) n).length=n:=by simp[nf]
 have⟨T,hT⟩:=eg (nf (rb g c) n)
 rw[hT]at o t4 t5 t6
 simp only[bQ]at o|-
 have⟨ad,ae⟩:=eg (g.bw.map j7)
 rw[ae]at o P|-
 refine bp [(1,.c (.aJ [[I g.n,.aj ad]] 0 0)),(2,au 0)] (fun G=>G=[ah 2 [[eW,eW]]]) ?_ ?_
 .simp
 rintro p G⟨a1,f,_⟩rfl
 refine bp [(4,au 1),(5,aa 0),(2,au 0)] (fun G=>G=[ah 2 [[eW,eW]],ah 2 [[.aj T,.aj []]]]) ?_ ?_
 .simp[a1,f,o,P,t4]
 rintro p G⟨r,a5,f,_⟩rfl
 refine bp [(4,au 1),(2,au 0)] (fun G=>G=[ah 2 [[eW,eW]],ah 2 [[.aj T,.aj []]]]) ?_ ?_
 .simp[r,a5,f]
 rintro p G⟨r,f,_⟩rfl
 refine bp [(4,au 1),(6,au 2),(2,au 0)] (fun G=>G=[ah 2 [[eW,eW]],ah 2 [[.aj T,.aj []]],ah 2 [[eW,eW]]]) ?_ ?_
 .simp[r,f]
 rintro p G⟨r,a6,f,_⟩rfl
 rw[iM]
 refine Ends.sq ?_
 refine bp [(2,au 0),(6,au 2),(21,bh T),(22,aa n),(23,aa (0:Nat))] (fun G=>G=[ah 2 [[eW,eW]],ah 2 [[.aj T,.aj []]],ah 2 [[eW,eW]]]) ?_ ?_
 .simp[r,a6,f,t6]
 rintro p G g1 rfl
 rw[eC]
 refine iv (fun i:Nat=>[(2,au 0),(6,au 2),(21,bh T),(22,aa n),(23,aa i)]) (fun i G=>i<=n/\G[0]?=some (ah 2 [[eW,eW]])/\∃q,G[2]?=some (ah 2 [[q,eW]])/\oR G 10 q i (kO g c i)/\∀m∈rf q,2<m) (fun i=>n-i) ?_ 0 g1 ⟨by omega,rfl,eW,rfl,.inl ⟨rfl,rfl⟩,by simp[rf]⟩ fun _=>rfl
 rintro i p G⟨A,B,C,D,t,_⟩⟨g2,R,q,u,E,g6⟩
 by_cases d:i<n
 case neg=>
  have Q:i=n:=by omega
  rw[Q]at E t
  have s:=oR.own (E.aK (H':=G.set 0 (ah 2 [[q,eW]])) fun m hm=>by grind) (GB _ _ _)
  have ag:(G.set 0 (ah 2 [[q,eW]]))[0]?=some (ah 2 [[q,eW]]):=ba R
  simp[-fh,A,B,C,D,t,R,u,ag]
  rcases s with⟨F,s⟩|⟨F,bs,s⟩
  .rw[s]
   rw[<-M, <-N]
   unfold sP
   rw[if_pos F]
   rfl
  .rw[s]
   rw[<-M, <-N]
   unfold sP
   rw[if_neg F]
   rfl
 have w:=t5 i d
 have j:=fun ak=>c66 ak O (by omega) c d
 have⟨x,hx⟩:=eg (iD g c i)
 have l:=afS g c i
 rw[hx]at l j
 simp only[nW]at w j
 have⟨ar,hQ⟩:=eg (mQ (rb g c i).af)
 have⟨x1,al⟩:=eg ((rb g c i).id)
 have⟨x2,am⟩:=eg ((rb g c i).phase)
 simp only[aT]at l j
 rw[hQ,al,am]at w j
 have S:adW.wrap ((i:Int)+1)=((i+1:Nat):Int):=cv (by omega)
 have l3:=bf u
 have H:∀K,(G++K)[0]?=some (ah 2 [[eW,eW]]):=fun K=>by grind
 have J:∀K,(G++K)[2]?=some (ah 2 [[q,eW]]):=fun K=>by grind
 have⟨y0,U⟩:=eg (I x.dr.ai.id)
 have⟨y1,w1⟩:=eg (I x.dr.ai.phase)
 have⟨y2,w2⟩:=eg (ab.aj (x.dr.ai.af.map ax))
 have⟨y3,w3⟩:=eg (I x.dr.aQ)
 have⟨y4,w4⟩:=eg (aG x.dr.need)
 have⟨y5,w5⟩:=eg (I x.book.last)
 have⟨y6,w6⟩:=eg (ab.aj (x.book.aA.map aN))
 have⟨y7,w7⟩:=eg (ab.aj (x.known.map aW))
 have⟨y8,w8⟩:=eg (aG x.told)
 have⟨y9,V⟩:=eg (ab.aj (x.asked.map aW))
 rw[U,w1,w2,w3,w4,w5,w6,w7,w8,V]at l j
 clear U w1 w2 w3 w4 w5 w6 w7 w8 V
 rcases E with⟨rfl,rfl⟩|⟨h,v,av,rfl,y,W⟩
 .simp[-aD,-fh,-getElem?_pos,-ad0,A,B,C,D,t,u,H,J,w,d,t6,S,j]
  refine⟨1,by omega,rfl,by omega,.inr ⟨G.length+3,0,by simp,rfl,?_,by simp[kO]⟩,fun m hm=>by grind [rf]⟩
  rw[aat (by omega),aea (by omega),show G.length+3-G.length=3 from by omega,l]
  rfl
 .have ⟨L,an⟩:=eg (kO g c i)
  rw[an]at y W l
  have aw:2<h:=g6 h (by simp[rf])
  have gh:∀K,(G++K)[h]?=some (.live v 10 L):=fun K=>by rw[abE (bf y)];exact y
  have ao:∀K X,((G++K).set h X)[2]?=some (ah 2 [[.sl h v 0 i,eW]]):=fun K X=>by rw[aat (by omega)];exact J K
  have n1:i+1<=maxLen:=by unfold maxLen;omega
  have n2:(i+1)*176<=140737488355328:=by omega
  have ap:L.take i=L:=acu (by omega)
  simp[-aD,-fh,-getElem?_pos,-ad0,A,B,C,D,t,u,H,J,ao,gh,y,w,d,t6,S,n1,n2,ap,W,j]
  refine⟨i+1,by omega,rfl,by omega,by rw[aat (by omega)];exact H _,.inr ⟨h,v+1,by omega,rfl,?_,by rw[l];simp;omega⟩,fun m hm=>by simp[rf]at hm;omega⟩
  grind
def kM(g:Gr)(c:List Int)(r:mZ):Cl:=⟨r.win,r.fy,r.wait,r.room,r.hold,(aiZ g.n.toNat).map (iD g c),fun _ _=>wO r.win r.fy r.wait r.room,fun _ _=>⟨[],0⟩⟩
theorem xY(H:List Ob)(j:fa g=true)(hc:pa g=some (c,k))(l:c.length=g.n.toNat)(m:∀i:Nat,i<g.n.toNat->1<=bD c i)(hp:∀e∈g.bw,bD c e.a≠bD c e.b):
  ∃q K,aO tz ay 33 [.agg (bQ g)] H=some (.aM [.agg [q,.aj []],aa 0],H++K)/\((g.n.toNat=0/\q= .aj []/\K=[])\/g.n.toNat≠0/\q= .sl H.length 0 0 g.n.toNat/\K=[ah 10 (kO g c g.n.toNat)]):=by
 have d:=YX j hc l m hp
 have f:=GB g c g.n.toNat
 have⟨n,hn⟩:=eg g.n.toNat
 rw[hn]at d f|-
 have⟨R,o⟩:=eg (kO g c n)
 rw[o]at d f|-
 have p:df H (.agg (bQ g))=some (.agg (bQ g),[]):=by simp only[df,mR (zx g)];rfl
 rw[aD,if_neg (by simp[eO])]
 simp only[r7,p,kU,show tz.md 33=0 from rfl,aeU]
 rw[d]
 unfold sP
 by_cases h:n=0
 .grind [(jP),ei,eN,dZ]
 .rw[if_neg h,jP]
  refine⟨.sl H.length 0 0 n,[ah 10 R],?_,.inr ⟨h,rfl,rfl⟩⟩
  simp[ei,eN,dZ,f]
def abx(r:mZ){R:List (List ab)}(b:bA R=true)(a:aO tz ay 33 [.agg (bQ g)] []=some (.aM [.agg [.sl 0 0 0 n,.aj []],aa 0],[ah 10 R])):
  aS tz ay 2 16 [.agg (bQ g),.agg (fU r)]=some (.aM [au 4,aa 0],[ah 10 R,ah 2 [[.sl 0 0 0 n,.aj []]],.mp [],.mp [],ah 8 [[I r.win,I r.fy,I r.wait,I r.room,I r.hold,.sl 0 0 0 n,.mr 2,.mr 3]]]):=by
 refine be func16 rfl ?_
 simp only[bQ,fU]at a|-
 simp[-aD,f16,a,anY,zM]
def afq(r:mZ)(a:aO tz ay 33 [.agg (bQ g)] []=some (.aM [.agg [.aj [],.aj []],aa 0],[])):
  aS tz ay 2 16 [.agg (bQ g),.agg (fU r)]=some (.aM [au 3,aa 0],[ah 2 [[.aj [],.aj []]],.mp [],.mp [],ah 8 [[I r.win,I r.fy,I r.wait,I r.room,I r.hold,.aj [],.mr 1,.mr 2]]]):=by
 refine be func16 rfl ?_
 simp only[bQ,fU]at a|-
 simp[-aD,f16,a,anY,zM]
def My(r:mZ){K:List Ob}{mp mt b:Nat}{a:Nat->aU}(d:K[b]?=some (ah 8 [[I r.win,I r.fy,I r.wait,I r.room,I r.hold,q,.mr mp,.mr mt]]))(e:K[mp]?=some (.mp []))(f:K[mt]?=some (.mp []))
  (h:a b= .cl 0) (c1:a mp= .cl 2) (c2:a mt= .cl 3) (i:sZ K a q ((aiZ g.n.toNat).map (iD g c))):bJ K a b (kM g c r):=
 ⟨q,mp,mt,[],[],d,i,e,f,rfl,rfl,h,c1,c2,fun _ _=> .inl ⟨rfl,rfl⟩,fun _ _=> .inl ⟨rfl,rfl⟩⟩
def wo(c:Nat->aU)(n:Nat)(l:List aU):Nat->aU:=fun m=>if m<n then c m else l.getD (m-n) .none
theorem adK(r:mZ)(u:fa g=true)(hc:pa g=some (c,k))(v:c.length=g.n.toNat)(w:∀i:Nat,i<g.n.toNat->1<=bD c i)(hp:∀e∈g.bw,bD c e.a≠bD c e.b):Ng g r (kM g c r):=by
 intro H h;have j:=GB g c g.n.toNat;have x:df H (.agg (bQ g))=some (.agg (bQ g),[]):=by simp only[df,mR (zx g)];rfl
 have y:df H (.agg (fU r))=some (.agg (fU r),[]):=by rfl
 have z:((aiZ g.n.toNat).map (iD g c)).map aT=kO g c g.n.toNat:=by unfold kO;rw[ajc];rfl
 have⟨N,o⟩:=eg H.length;have f:∀(K:List Ob) k,(H++K)[k+N]?=K[k]?:=fun K k=>Qc _ _ o;have d:∀l k,wo h N l (k+N)=l.getD k .none:=fun l k=>by grind [wo]
 have p:∀(K:List Ob) l,aH (fun _=>False) h (wo h N l) H (H++K):=fun K l=>⟨by simp,fun m hm=>by grind [wo],fun m hm _=>abE hm⟩;have⟨q,K,s,A⟩:=xY [] u hc v w hp;rw[aD,if_neg (by simp[eO])];simp only[r7,x,y,kU,show tz.md 16=2 from rfl,aeU];rcases A with⟨t,rfl,rfl⟩|⟨t,rfl,rfl⟩
 .rw[afq r (by simpa using s),jP];refine⟨3+N,wo h N [.none,.cl 2,.cl 3,.cl 0],H++[ah 2 [[.aj [],.aj []]],.mp [],.mp [],ah 8 [[I r.win,I r.fy,I r.wait,I r.room,I r.hold,.aj [],.mr (1+N),.mr (2+N)]]],?_,?_,p _ _⟩
  .simp[ei,pB,jm,nT,rq,eN,dX,dZ,cy,bC,bA,o];omega
  .refine My r (by rw[f];rfl) (by rw[f];rfl) (by rw[f];rfl) (d _ _) (d _ _) (d _ _) (.inl ⟨by rw[t];rfl,rfl⟩)
 .rw[abx r j (by simpa using s),jP];have⟨R,B⟩:=eg (kO g c g.n.toNat);rw[B]at j z|-;have C:dX N (ah 10 R)=ah 10 R:=qy j;have D:R.map (fun r=>r.map (dZ N))=R:=by grind [dX]
  refine⟨4+N,wo h N [.cl 1,.none,.cl 2,.cl 3,.cl 0],H++[ah 10 R,ah 2 [[.sl N 0 0 g.n.toNat,.aj []]],.mp [],.mp [],ah 8 [[I r.win,I r.fy,I r.wait,I r.room,I r.hold,.sl N 0 0 g.n.toNat,.mr (2+N),.mr (3+N)]]],?_,?_,p _ _⟩
  .simp[ei,pB,jm,nT,rq,eN,dX,dZ,cy,bC,bA,o];grind
  .refine My r (by rw[f];rfl) (by rw[f];rfl) (by rw[f];rfl) (d _ _) (d _ _) (d _ _) (.inr ⟨N,0,by simp,?_,?_⟩)
   .grind
   .have:=d [.cl 1,.none,.cl 2,.cl 3,.cl 0] 0;grind
end
section
variable{T:Nat}{K K':Cl}{l F:List Ev}{e:Int}
end
section
variable{H:List Ob}{c:Nat->aU}{n:Nat}{g:Gr}
theorem Yc(a:fa g=true)(c:List Int)(r:mZ):dL 0 (kM g c r):=by
 have e:=vX a;have f:=((nD g).1 a).2.1;have j:(kM g c r).nodes.length=g.n.toNat:=by simp[kM]
 have b:∀i (h:i< (kM g c r).nodes.length),(kM g c r).nodes[i]=iD g c i:=fun i h=>by simp[kM]
 refine⟨⟨fun x y=>?_,by omega,fun x y=>ad3 _,fun x y=>akg _⟩,⟨fun i d=>?_,fun i d=>?_⟩,fun x y=>ad3 _,fun x y s=>ad3 _⟩
 .exact ⟨fun s=>Uu _ _ _ _ _,fun s=>akg _,fun s t h=>by simp[kM,wO]at h,by show(eB r.room 0 1000).toNat<=1000;unfold eB;omega⟩
 .grind [(ZZ),(HK)]
 .rw[b];rfl
theorem afJ{l:List LA}(h:rD g l=true):fa g=true/\g.n<=5/\l.length<=100/\∀x∈l,x.d.need.length<=20:=by grind [rD,(acu)]
end
section
structure Vw where
 side:Option (Int×Int)
 known:Int
 asked:List Int
abbrev Mg:=Int->Int->Prop
section
variable{X Y:Vw}{F R F' R':Mg}{e:Int}
end
end
section
variable{S:Int->Prop}{Z:Int->Vw}{F R:Int->Mg}{w w':Wk}
def amP(x:aI):Int×Int×Int:=(x.peer,x.aP,x.state)
def aoe{f:aI->aI}(h:∀x,amP (f x)=amP x)(l:List aI):(l.map f).map amP=l.map amP:=by rw[ajc];exact ajp fun x _=>h x
def DrS(d a:Dr)(l:List cB):Prop:=a.ai.id=d.ai.id/\a.ai.af.map amP=d.ai.af.map amP/\∀m∈l,m.fN.kind<5/\m.src=d.ai.id
theorem aqx{d:Dr}(h:dC d=true):DrS d (cq d).1 (cq d).2:=by
 have e:eo ⟨d.ai.id,eG d,d.ai.af⟩=true:=pW h;have g:∀x,amP (cI d.ai.id (eG d) x).1=amP x:=fun x=>by unfold cI amP;grind
 have i:∀id b c x,amP (bL id b c x).1=amP x:=fun _ _ _ x=>by unfold bL amP;grind
 refine⟨(yK h).1,?_,?_⟩
 .simp only[cq,rl];rw[aoe (fun x=>i _ _ _ x)];unfold fx;rw[if_neg (by simp[e])];simp only;split
  .simp only;rw[aoe (f:=fun x=>{x with cK:=true}) (fun _=>rfl),aoe g]
  .exact aoe g _
 .simp only[cq,rl,fx];rw[if_neg (by simp[e])];have j:∀id k x, ∀m∈(cI id k x).2,m.fN.kind<5/\m.src=id:=fun _ _ _ _=>by grind [cI,ft]
  have l:∀id b c x, ∀m∈(bL id b c x).2,m.fN.kind<5/\m.src=id:=fun _ _ _ _ _=>by grind [bL,ft]
  intro m hm;rcases ain.1 hm with hm|hm
  .split at hm<;>(have⟨x,_,a⟩:=amj.1 hm;exact j _ _ x m a)
  .have ⟨x,_,a⟩:=amj.1 hm;split at a<;>exact l _ _ _ x m a
theorem aqd{d:Dr}(h:dC d=true):DrS d (lC d).1 (lC d).2.1:=by
 have e:∀(k:Nat) (a:Dr) (out:List cB),dC a=true->DrS d a out->DrS d (qg k a out).1 (qg k a out).2:=by
  intro k;induction k with
  |zero=>exact fun _ _ _ h=>h
  |succ k f=>
   intro a out b g;have i:=aqx b;have c:DrS d (cq a).1 (out++(cq a).2):=by grind [DrS]
   unfold qg;split
   .exact c
   .exact f _ _ (Rg b) c
 unfold lC;rw[if_neg (by simp[h])];exact e _ d [] h ⟨rfl,rfl,by simp⟩
theorem aoV{p q e:Int}:∀ {l:List cj},(l.Pairwise fun x y=>x.peer<y.peer)->gR (fS q e l) p=if q=p then e else gR l p
 |[],h=>by simp[gR,fS]
 |y::r,h=>by
  have:=aoV (p:=p) (q:=q) (e:=e) (ahg.1 h).2
  have a:=(ahg.1 h).1
  grind [gR,fS]
end
def anQ(x:Int):(((jx x).toNat:Nat):Int)=x % 256:=by
 unfold jx;have:ajf.wrap x=x % 256:=by simp[am0,amZ,amU]
 rw[this,ana];omega
def aqJ(m:cY)(h:(ln (jv m).1).2=0):(ln (jv m).1).1=m:=by
 by_cases a:vU m=false
 .have:(jv m).1=[]:=by unfold jv;rw[if_pos a]
  rw[this]at h;simp[ln]at h
 .have c:(jv m).1=(QI m).take (CG m.kind).toNat:=by unfold jv;rw[if_neg a]
  rw[c]at h|-;have b:CG m.kind=3/\m.num=0/\1<=m.kind/\m.kind<=8\/CG m.kind=5/\m.kind=9:=by simp only[vU,CG]at a|-;grind
  have d:0<=m.aP/\m.aP<=65535/\0<=m.num/\m.num<=65535:=by simp only[vU]at a;grind
  have f:ln ((QI m).take (CG m.kind).toNat)=(EQ ((QI m).take (CG m.kind).toNat),0):=by unfold ln at h|-;grind
  rw[f];have⟨k,e,n⟩:=m;have g:∀x:Int,(((jx (x.fdiv 256)).toNat:Nat):Int)=x / 256 % 256:=fun x=>by rw[anQ,am1 _ (by decide)]
  simp only at b d;rcases b with⟨s,rfl,i,j⟩|⟨s,rfl⟩;all_goals rw[s];simp[EQ,QI,Fi,anQ,g];omega
section
def kn5:tz.kt 5=none/\tz.kt 12=none/\tz.kt 13=none/\tz.kt 14=none/\tz.kt 15=none/\tz.kt 21=none:=by and_intros<;>kernel_rfl
attribute [local simp] kn5
end
def cSl{f z:Nat}{R:List (List ab)}(hm:tz.md f=0)(a:bA R=true)(h:aS tz ay 0 f [bh R]=some (bd 0 0 0 R.length,[ah z R]))(H:List Ob):aO tz ay f [bh R] H=some (bd H.length 0 0 R.length,H++[ah z R]):=by simp[hm,h,a]
def aqS(l:List aI)(b:l.length<=1000000)(H:List Ob):aO tz ay 44 [bh (l.map ax)] H=some (bd H.length 0 0 l.length,H++[ah 8 (l.map ax)]):=by have:=cSl (f:=44) rfl (bK l) (by rw[yZ (a:= .aj (l.map ax)) rfl b,aio]) H;rwa [aio]at this
def apg(l:List cj)(b:l.length<=1000000)(H:List Ob):aO tz ay 46 [bh (l.map aW)] H=some (bd H.length 0 0 l.length,H++[ah 2 (l.map aW)]):=by have:=cSl (f:=46) rfl (bR l) (by rw[p46 (a:= .aj (l.map aW)) rfl b,aio]) H;rwa [aio]at this
def aqD(l:List bW)(b:l.length<=1000000)(H:List Ob):aO tz ay 47 [bh (l.map aN)] H=some (bd H.length 0 0 l.length,H++[ah 4 (l.map aN)]):=by have:=cSl (f:=47) rfl (bV l) (by rw[OV (a:= .aj (l.map aN)) rfl b,aio]) H;rwa [aio]at this
def aoi(l:List Int)(b:l.length<=1000000)(H:List Ob):aO tz ay 45 [bh (l.map aC)] H=some (bh (l.map aC),H):=by have h:=uF (a:= .aj (l.map aC)) rfl b;have c:=bi l;simp[show tz.md 45=1 from rfl,h,c]
def p43{a:ab}{l:List Nd}(b:rowsOf a=some (l.map aT))(d:l.length<=1000000):aS tz ay 0 43 [.c a]=some (bd 0 0 0 l.length,[ah 10 (l.map aT)]):=by unfold aS ay;rw[gW (show tz.dH 43=true by kernel_rfl),show tz.dF 43=fJ 10 by kernel_rfl];have e:=u7 aT 10 (fun _=>rfl) l;have f:=xd l;simp[fJ,b,e,f,kG d]
def c43{H:List Ob}{c:Nat->aU}{q:ab}{l:List Nd}(g:sZ H c q l)(i:l.length<=1000000):aO tz ay 43 [.c q] H=some (bd H.length 0 0 l.length,H++[ah 10 (l.map aT)]):=by
 have b:=xd l;rcases g with⟨rfl,rfl⟩|⟨h,v,rfl,d,t⟩
 .have h:=p43 (a:= .aj []) (l:=[]) rfl (by simp);simp[show tz.md 43=0 from rfl,h,ei,bU,bC,eN,dZ,dX]
 .have j:lH [10] (ah 10 (l.map aT))=true:=by
   have k:∀l:List aI,gZ [10] (l.map ax)=true:=vz _ _ fun x=>rfl;have m:∀l:List cj,gZ [10] (l.map aW)=true:=vz _ _ fun x=>rfl;have e:∀l:List Int,gZ [10] (l.map aC)=true:=vz _ _ fun x=>rfl;have o:∀l:List bW,gZ [10] (l.map aN)=true:=vz _ _ fun x=>by simp[aN,cW,fW,aG,e]
   have p:∀n,cW [10] (aT n)=true:=fun n=>by simp[aT,cW,fW,aG,k,m,e,o]
   simp[lH,p]
  have r:dX H.length (ah 10 (l.map aT))=ah 10 (l.map aT):=qy b;have f:=um (lo:=0) (len:=l.length) d (by simp);rw[akn,acu (by simp)]at f;have s:=zF (n:=5) d f b;have h:=p43 (a:= .aj (l.map aT)) (l:=l) rfl i;simp[-bU,-lH,show tz.md 43=0 from rfl,h,s,ei,j,r,kj,fW,eN,dZ]
def SlR(N:Nat)(H:List Ob)(z:Nat)(q:ab)(rows:List (List ab)):Prop:= ∃h v,N<=h/\q= .sl h v 0 rows.length/\H[h]?=some (.live v z rows)
structure NdL(N:Nat)(H:List Ob)(r:List ab)(n:Nd):Prop where
 e:∃s ss kn ak,r=[I n.dr.ai.id,I n.dr.ai.phase,s,I n.dr.aQ,aG n.dr.need,I n.book.last,ss,kn,aG n.told,ak]/\SlR N H 8 s (n.dr.ai.af.map ax)/\SlR N H 4 ss (n.book.aA.map aN)/\SlR N H 2 kn (n.known.map aW)/\SlR N H 2 ak (n.asked.map aW)
def aom(N:Nat)(H:List Ob)(q:ab)(a:List Nd):Prop:= ∃h v rows,N<=h/\q= .sl h v 0 a.length/\H[h]?=some (.live v 10 rows)/\rows.length=a.length/\∀i (_:i<a.length), ∃r,rows[i]?=some r/\NdL N H r a[i]
theorem SlR.aK{N:Nat}{H H':List Ob}{z:Nat}{q:ab}{rows:List (List ab)}(h:SlR N H z q rows)(c:∀m v r,N<=m->H[m]?=some (.live v z r)->H'[m]?=H[m]?):SlR N H' z q rows:=by have⟨h,v,a,d,b⟩:=h;exact⟨h,v,a,d,by rw[c h v _ a b];exact b⟩
theorem NdL.aK{N:Nat}{H H':List Ob}{r:List ab}{n:Nd}(h:NdL N H r n)(b:∀m v z r,N<=m->z≠10->H[m]?=some (.live v z r)->H'[m]?=H[m]?):NdL N H' r n:=by have⟨s,c,d,f,g,i,j,k,l⟩:=h.e;exact⟨s,c,d,f,g,i.aK fun m v r a=>b m v 8 r a (by decide),j.aK fun m v r a=>b m v 4 r a (by decide),k.aK fun m v r a=>b m v 2 r a (by decide),l.aK fun m v r a=>b m v 2 r a (by decide)⟩
section
attribute [local simp] kn5
def aqk:bn 21 6=aed/\bn 21 7=acs/\bn 21 12=XQ:=by and_intros<;>kernel_rfl
attribute [local simp] aqk aed acs XQ
section
variable{H:List Ob}{c:Nat->aU}{b:Nat}{K:Cl}
def c21(h:bJ H c b K)(hl:K.nodes.length<=1000)(hs:∀n∈K.nodes,fu n):∃q w,aO tz ay 21 [au b] H=some (.c q,w)/\aom H.length w q K.nodes/\H.length<=w.length/\∀m,m<H.length->w[m]?=H[m]?:=by
 have⟨q,mp,mt,es,et,hr⟩:=h;have am:=c43 hr.hn (by omega);have hb:=hr.hb;have⟨o,a4⟩:=eg K.nodes;rw[a4]at am hl hs|-;have⟨n,hn⟩:=eg o.length;have⟨N,hN⟩:=eg H.length;rw[hN,hn]at am;rw[hN]
 obtain⟨r,w,h1,q',rfl,Z⟩:=cG (C:=tz) (f:=21) (args:=[au b]) (H:=H) (fun r w=>∃q,r= .c q/\aom N w q o/\N<=w.length/\∀m,m<N->w[m]?=H[m]?) func21 rfl (by
  simp only[f21,cr];refine bp [(0,au b)] (fun G=>G=H) ?_ ?_
  .simp
  rintro p G⟨a0,_⟩rfl;refine bp [(3,bd N 0 0 n)] (fun a=>a=G++[ah 10 (o.map aT)]) ?_ ?_
  .simp[-aD,-getElem?_pos,a0,hb,am]
  rintro p G1⟨a3,_⟩rfl;refine bp [(3,bd N 0 0 n)] (fun a=>aom N a (.sl N 0 0 o.length) o/\N<=a.length/\∀m,m<N->a[m]?=G[m]?) ?_ ?_
  .refine bp [(3,bd N 0 0 n),(13,aa n),(14,aa (0:Nat))] (fun a=>a=G++[ah 10 (o.map aT)]) ?_ ?_
   .simp[a3]
   rintro p G2 g1 rfl;rw[eC];refine iv (fun i:Nat=>[(3,bd N 0 0 n),(13,aa n),(14,aa i)]) (fun i a=>i<=n/\N<a.length/\(∀m,m<N->a[m]?=G[m]?)/\∃rows,a[N]?=some (.live 0 10 rows)/\rows.length=n/\(∀k (s:k<o.length),k<i->∃r,rows[k]?=some r/\NdL N a r o[k])/\∀k (s:k<o.length),i<=k->rows[k]?=some (aT o[k])) (fun i=>n-i) ?_ 0 g1 ⟨by omega,by simp;omega,fun m hm=>abE (by omega),o.map aT,by rw[aea (by omega),hN];simp,by simp[hn],fun k s h=>by omega,fun k s _=>by rw[adf,abM s];rfl⟩ fun _=>rfl;rintro i p z ⟨d,e,l,_⟩ ⟨g2,g3,g4,rows,M,g6,g7,g8⟩;by_cases an:i<n
   case neg=>simp[-getElem?_pos,d,e,l,an];exact⟨⟨N,0,rows,ad3 _,rfl,M,by omega,fun k s=>g7 k s (by omega)⟩,by omega,g4⟩
   have hi:i<o.length:=by omega
   have rx:=g8 i hi (ad3 _);have⟨x,hx⟩:=eg o[i];have E:=hs x (by rw[<-hx];exact aix hi);rw[hx]at rx;have F:i<rows.length:=by omega
   have hw:adW.wrap ((i:Int)+1)=((i+1:Nat):Int):=cv (by omega);refine bp [(3,bd N 0 0 n),(13,aa n),(14,aa i),(15,aR true)] (fun a=>a=z) ?_ ?_
   .simp[d,e,l,an]
   rintro p A⟨d,e,l,a5,_⟩rfl;refine bp [(3,bd N 0 0 n),(13,aa n),(14,aa i)] (fun a=>a=A) ?_ ?_
   .simp[d,e,l,a5]
   rintro p z⟨d,e,l,_⟩rfl;refine bp [(3,bd N 0 0 n),(13,aa n),(14,aa i)] (fun a=>N<a.length/\(∀m,m<N->a[m]?=G[m]?)/\∃rows,a[N]?=some (.live 0 10 rows)/\rows.length=n/\(∀k (s:k<o.length),k<i+1->∃r,rows[k]?=some r/\NdL N a r o[k])/\∀k (s:k<o.length),i+1<=k->rows[k]?=some (aT o[k])) ?_ ?_
   .rw[eC];refine Ends.bl ?_;refine bp [(3,bd N 0 0 n),(13,aa n),(14,aa i),(4,aa i)] (fun a=>a=z) ?_ ?_
    .simp[d,e,l]
    rintro p A⟨d,e,l,b4,_⟩rfl;refine bp [(3,bd N 0 0 n),(13,aa n),(14,aa i),(5,.c (.ptr N 0 i 0))] (fun a=>a=A) ?_ ?_
    .simp[-getElem?_pos,d,e,l,b4,M,g6,an]
    rintro p z⟨d,e,l,B,_⟩rfl;have⟨aI,hS⟩:=eg (x.dr.ai.af.map ax);have ad:=aqS x.dr.ai.af (by have:=E.si;omega);have ae:=aoi x.dr.need (by have:=E.nd;omega);rw[hS]at ad;have⟨g,hg⟩:=eg z.length;have⟨O,aJ⟩:=eg x.dr.ai.af.length;rw[aJ]at ad;have gK:∀K,(z++K)[N]?=some (.live 0 10 rows):=fun K=>by rw[abE (by omega)];exact M
    have gS:∀K X,((z++K).set N X)[N]?=some X:=fun K X=>ba (gK K);have J:∀X,(rows.set i X)[i]?=some X:=fun X=>by simp[F]
    simp only[aT]at rx;rw[hS]at rx;refine bp [(3,bd N 0 0 n),(13,aa n),(14,aa i),(5,.c (.ptr N 0 i 0))] (fun a=>a=(z++[ah 8 aI]).set N (.live 0 10 (rows.set i [I x.dr.ai.id,I x.dr.ai.phase,.sl g 0 0 O,I x.dr.aQ,aG x.dr.need,I x.book.last,.aj (x.book.aA.map aN),.aj (x.known.map aW),aG x.told,.aj (x.asked.map aW)]))) ?_ ?_
    .simp[-aD,-getElem?_pos,d,e,l,B,M,rx,F,ad,ae,gK,hg,gS,J]
    rintro p A⟨d,e,l,B,_⟩P;have⟨KN,ag⟩:=eg (x.known.map aW);have⟨AK,ak⟩:=eg (x.asked.map aW);have⟨t,S⟩:=eg (x.book.aA.map aN);have⟨T,aL⟩:=eg x.known.length;have⟨U,aM⟩:=eg x.asked.length;have⟨D,aP⟩:=eg x.book.aA.length;have ao:=apg x.known (by have:=E.kn;omega);have ap:=apg x.asked (by have:=E.aq;omega);have aS:=aoi x.told (by have:=E.tl;omega);have ar:=aqD x.book.aA (by have:=E.bk.1;omega);rw[ag,ak,S]at P;rw[ag,aL]at ao;rw[ak,aM]at ap;rw[S,aP]at ar;have⟨V,av⟩:=eg ([I x.dr.ai.id,I x.dr.ai.phase,.sl g 0 0 O,I x.dr.aQ,aG x.dr.need,I x.book.last,.aj t,.aj KN,aG x.told,.aj AK]:List ab);rw[av]at P;have aw:A[N]?=some (.live 0 10 (rows.set i V)):=by rw[P];exact ba (gK _)
    have aU:(rows.set i V)[i]?=some V:=by simp[F]
    have a9:i< (rows.set i V).length:=by simpa using F
    have az:A.length=g+1:=by rw[P];simp[hg]
    have al:∀K,(A++K)[N]?=some (.live 0 10 (rows.set i V)):=fun K=>by rw[abE (by omega)];exact aw
    rw[<-av]at aU;have aV:∀K X,((A++K).set N X)[N]?=some X:=fun K X=>ba (al K);refine bp [(3,bd N 0 0 n),(13,aa n),(14,aa i),(5,.c (.ptr N 0 i 0))] (fun a=>a=(A++[ah 2 KN,ah 2 AK]).set N (.live 0 10 (rows.set i [I x.dr.ai.id,I x.dr.ai.phase,.sl g 0 0 O,I x.dr.aQ,aG x.dr.need,I x.book.last,.aj t,.sl (g+1) 0 0 T,aG x.told,.sl (g+2) 0 0 U]))) ?_ ?_
    .simp[-aD,-getElem?_pos,d,e,l,B,aw, <-av,F,ao,ap,aS,al,az,aV,J]
    rintro p G5⟨d,e,l,B,_⟩Q;have⟨r2,aB⟩:=eg ([I x.dr.ai.id,I x.dr.ai.phase,.sl g 0 0 O,I x.dr.aQ,aG x.dr.need,I x.book.last,.aj t,.sl (g+1) 0 0 T,aG x.told,.sl (g+2) 0 0 U]:List ab);rw[aB]at Q;have aE:G5[N]?=some (.live 0 10 (rows.set i r2)):=by rw[Q];exact ba (al _)
    have aF:G5.length=g+3:=by rw[Q];simp[az]
    have aH:∀K,(G5++K)[N]?=some (.live 0 10 (rows.set i r2)):=fun K=>by rw[abE (by omega)];exact aE
    have aX:=J r2;rw[<-aB]at aX;refine bp [(3,bd N 0 0 n),(13,aa n),(14,aa i),(5,.c (.ptr N 0 i 0))] (fun a=>a=(G5++[ah 4 t]).set N (.live 0 10 (rows.set i [I x.dr.ai.id,I x.dr.ai.phase,.sl g 0 0 O,I x.dr.aQ,aG x.dr.need,I x.book.last,.sl (g+3) 0 0 D,.sl (g+1) 0 0 T,aG x.told,.sl (g+2) 0 0 U]))) ?_ ?_
    .simp[-aD,-getElem?_pos,d,e,l,B,aE, <-aB,F,ar,aH,aF,J]
    rintro p u⟨d,e,l,B,_⟩L;have⟨W,Y⟩:=eg ([I x.dr.ai.id,I x.dr.ai.phase,.sl g 0 0 O,I x.dr.aQ,aG x.dr.need,I x.book.last,.sl (g+3) 0 0 D,.sl (g+1) 0 0 T,aG x.told,.sl (g+2) 0 0 U]:List ab);rw[Y]at L;have k0:u[N]?=some (.live 0 10 (rows.set i W)):=by rw[L];exact ba (aH _)
    have bb:N<g:=by omega
    have k1:u[g]?=some (ah 8 aI):=by rw[L,aat (by omega),abE (by omega),Q,aat (by omega),abE (by omega),P,aat (by omega),aea (by omega),hg];simp
    have k2:u[g+1]?=some (ah 2 KN)/\u[g+2]?=some (ah 2 AK):=by constructor<;>rw[L,aat (by omega),abE (by omega),Q,aat (by omega),aea (by omega),az]<;>simp
    have R:u[g+3]?=some (ah 4 t):=by rw[L,aat (by omega),aea (by omega),aF];simp
    have k4:∀m,m<g->m≠N->u[m]?=z[m]?:=fun m h1 Z=>by rw[L,aat (by omega),abE (by omega),Q,aat (by omega),abE (by omega),P,aat (by omega),abE (by omega)]
    have k5:u.length=g+4:=by rw[L];simp[aF]
    have a6:=J W;have aY:t.length=D:=by rw[<-S, <-aP];simp
    clear P Q L gK gS al aV aH aw aE aU aX ad ao ap aS ar ae;rw[<-Y]at a6;refine(?_:Ends _ _);refine bp [(3,bd N 0 0 n),(13,aa n),(14,aa i),(5,.c (.ptr N 0 i 0)),(81,aa D),(82,aa (0:Nat))] (fun a=>a=u) ?_ ?_
    .simp[-aD,-getElem?_pos,d,e,l,B,k0, <-Y,F,R,J]
    rintro p G7 g1 rfl;rw[eC];refine iv (fun j:Nat=>[(3,bd N 0 0 n),(13,aa n),(14,aa i),(5,.c (.ptr N 0 i 0)),(81,aa D),(82,aa j)]) (fun j a=>j<=D/\a=G7) (fun j=>D-j) ?_ 0 g1 ⟨by omega,rfl⟩ fun _=>rfl;rintro j p u ⟨d,e,l,B,aZ,a1,_⟩ ⟨g2,rfl⟩;by_cases dj:j<D
    .have a7:adW.wrap ((j:Int)+1)=((j+1:Nat):Int):=cv (by have:=E.bk.1;unfold maxLen at this;omega);have a2:j<x.book.aA.length:=by omega
     have⟨y,hy⟩:=eg x.book.aA[j];have rj:t[j]?=some [I y.id,.aj (y.need.map aC),I y.state,I y.cH]:=by rw[<-S,adf,abM a2,hy];rfl
     have ae:=aoi y.need (by have:=E.bk.2 _ (aix a2);rw[hy]at this;omega);have jS:j<t.length:=by omega
     have sS:t.set j [I y.id,.aj (y.need.map aC),I y.state,I y.cH]=t:=ja jS (by rw[<-ab1, <-abM jS];exact rj);have gS:u.set (g+3) (ah 4 t)=u:=ja (bf R) (by rw[<-ab1, <-abM (bf R)];exact R);simp[-aD,-getElem?_pos,-ad0,d,e,l,B,aZ,a1,k0, <-Y,F,J,R,dj,aY,rj,ae,sS,gS,a7];exact⟨j+1,by omega,rfl,by omega⟩
    .simp[-getElem?_pos,d,e,l,B,aZ,a1,dj];refine⟨by omega,fun m hm=>(k4 m (by omega) (by omega)).trans (g4 m hm),rows.set i W,k0,by rw[aiP];exact g6,fun k s h=>?_,fun k s h=>?_⟩
     .by_cases c:k=i
      .subst c;refine⟨W,J W,⟨⟨.sl g 0 0 O,.sl (g+3) 0 0 D,.sl (g+1) 0 0 T,.sl (g+2) 0 0 U,by rw[hx];exact Y.symm,?_⟩⟩⟩;rw[hx,hS,S,ag,ak];refine⟨⟨g,0,by omega,by rw[<-hS,aio,aJ],k1⟩,⟨g+3,0,by omega,by rw[aY],R⟩,⟨g+1,0,by omega,by rw[<-ag,aio,aL],k2.1⟩,⟨g+2,0,by omega,by rw[<-ak,aio,aM],k2.2⟩⟩
      .have ⟨r,p1,p2⟩:=g7 k s (by omega);exact⟨r,by rw[aat (ait c)];exact p1,p2.aK fun m v bc r' h1 Z h3=>k4 m (by have:=bf h3;omega) fun a8=>by rw[a8,M]at h3;cases h3;exact Z rfl⟩
     .rw[aat (by omega)];exact g8 k s (by omega)
   .rintro p A⟨d,e,l,_⟩⟨g3,g4,rows,M,g6,g7,g8⟩;simp[-getElem?_pos,-ad0,d,e,l,hw];exact⟨i+1,by omega,rfl,by omega,g3,g4,rows,M,g6,g7,g8⟩
  .rintro p z⟨a3,_⟩hG;simp[a3];rw[<-hn];exact hG)
 exact⟨q',w,dK (by simp) h1,Z⟩
end
end
section
attribute [local simp] kn5
def aqi:bn 13 12=j9:=by kernel_rfl
attribute [local simp] aqi
section
variable{H:List Ob}{c:Nat->aU}{b:Nat}{K:Cl}
end
end
section
attribute [local simp] kn5
section
variable{H:List Ob}{N:Nat}
theorem SlR.view{z n:Nat}{q:ab}{rows:List (List ab)}(h:SlR N H z q rows)(c:bA rows=true):bU H (n+1) q=some (.aj rows,[z]):=by obtain⟨h,v,_,rfl,a⟩:=h;have b:=um (lo:=0) (len:=rows.length) a (by simp);rw[akn,aiF]at b;exact zF a b c
end
end
structure Qb(n:Nd):Prop where
 ok:dC n.dr=true
 th:n.dr.aQ=0
 nd:n.dr.need=[]
 ss:n.book.aA=[]
 aq:n.asked=[]
 st:∀x∈n.dr.ai.af,x.state≠2
def aqb{w:Wk}(h:∀x∈w.n.dr.ai.af,x.state≠2):w.lA=w:=by
 have c:∀(id a:Int) (b:List Int) (l:List aI),(∀x∈l,x.state≠2)->(l.flatMap fun x=>(dD id a b x).1)=l/\(l.flatMap fun x=>(dD id a b x).2)=[]:=by
  intro id a b l;induction l with
  |nil=>simp
  |cons x r d=>intro h;have:=d fun y e=>h y (by simp[e]);simp[dD,h x (by simp)]at this|-;exact this
 have⟨f,g⟩:=c w.n.id w.n.dr.aQ w.n.dr.need w.n.af h;unfold Wk.lA;rw[f,g];simp[Nd.eK]
def amV(id a:Int)(l:List aI):Int×List aI×List cB:=
 if a=1/\((l.map fun x=>(cI id a x).1).all fun x=>x.fork)=true then(2,(l.map fun x=>(cI id a x).1).map fun x=>{x with cK:=true},l.flatMap fun x=>(cI id a x).2)else(a,l.map fun x=>(cI id a x).1,l.flatMap fun x=>(cI id a x).2)
def an9{d:Dr}(h:dC d=true)(e:d.aQ=0)(hn:d.need=[])(f:∀x∈d.ai.af, ¬(x.dc=true/\x.ask=true)):
  cq d=(⟨⟨d.ai.id,(amV d.ai.id (eG d) d.ai.af).1,(amV d.ai.id (eG d) d.ai.af).2.1⟩,0,[]⟩,(amV d.ai.id (eG d) d.ai.af).2.2):=by
 have g:eo ⟨d.ai.id,eG d,d.ai.af⟩=true:=pW h
 have i:fx ⟨d.ai.id,eG d,d.ai.af⟩=(⟨d.ai.id,(amV d.ai.id (eG d) d.ai.af).1,(amV d.ai.id (eG d) d.ai.af).2.1⟩,(amV d.ai.id (eG d) d.ai.af).2.2,0):=by
  unfold fx amV
  rw[if_neg (by simp[g])]
  simp only
  split<;>rfl
 have j:∀x∈(amV d.ai.id (eG d) d.ai.af).2.1, ¬(x.dc=true/\x.ask=true):=by
  have a:∀x∈d.ai.af.map fun x=>(cI d.ai.id (eG d) x).1, ¬(x.dc=true/\x.ask=true):=fun x c=>by
   obtain⟨y,b,rfl⟩:=aiK.1 c
   have:=f y b
   unfold cI
   grind
  unfold amV
  split
  .intro x c
   obtain⟨y,b,rfl⟩:=aiK.1 c
   exact a y b
  .exact a
 have k:∀(id:Int) (l:List aI),(∀x∈l, ¬(x.dc=true/\x.ask=true))->(l.map fun x=>(bL id 0 [] x).1)=l/\(l.flatMap fun x=>(bL id 0 [] x).2)=[]:=by
  intro id l
  induction l with
  |nil=>simp
  |cons x r m=>
   intro h
   have a:=m fun y b=>h y (by simp[b])
   have q:=h x (by simp)
   have n:bL id 0 [] x=(x,[]):=by unfold bL;grind
   rw[ag9,aiz,n,a.1,a.2]
   simp
 have⟨o,p⟩:=k d.ai.id _ j
 unfold cq rl
 simp only[i,e,hn,o,p]
 simp
def aqp{d:Dr}(a:(cq d).1≠d)(b:(cq (cq d).1).1=(cq d).1)(h:dC d=true):lC d=((cq d).1,(cq d).2++(cq (cq d).1).2,0):=by have hm:=aad h a;obtain⟨m,c⟩:∃m,rz d=m+1:=⟨rz d-1,by omega⟩;unfold lC;rw[if_neg (by simp[h]),c];simp only[qg,a,b,if_false,if_true,aiD]
def aqL{d:Dr}(a:(cq d).1=d)(h:dC d=true):lC d=(d,(cq d).2,0):=by unfold lC;rw[if_neg (by simp[h])];simp only[qg,a,if_true,aiD]
def aph{w v f:Wk}(h:jt w v)(k:Nat)(it:Nat->Wk)(d:it 0=w)(b:∀j,j<k->it (j+1)=(it j).iw)(e:it k=f)(g:f.iw=f)(o:∀j,j<k->(it (j+1)).n≠(it j).n):v=f:=by
 obtain⟨u,a,_,i,rfl⟩:=h
 have p:∀ {u:Wk},Reach w u->(∃j,j<k/\u=it j)\/u=f:=fun q=>by
  induction q with
  |refl=>
   by_cases c:0<k
   .exact .inl ⟨0,c,d.symm⟩
   .have:k=0:=by omega
    subst this;exact .inr (by rw[<-e,d])
  |step _ r=>
   rcases r with⟨j,a,l⟩|h
   .by_cases c:j+1<k
    .exact .inl ⟨j+1,c,by rw[l,b j a]⟩
    .have:j+1=k:=by omega
     exact .inr (by rw[l, <-b j a,this,e])
   .exact .inr (by rw[h,g])
 rcases p a with⟨j,m,rfl⟩|h
 .rw[<-b j m]at i;exact absurd i (o j m)
 .rw[h,g]
def aos{w:Wk}(h:Qb w.n)(r:∀x∈w.n.dr.ai.af, ¬(x.dc=true/\x.ask=true)):
  w.iw=iN (fF (dG w)):=by
 have hA:dA w=w:=by
  have⟨n,o,s,e⟩:=w
  have b:=h.aq
  simp only at b
  unfold dA Wk.answer
  split
  .simp only[b,List.foldl_nil,Wk.put]
   rw[<-b]
  .rfl
 have i:dq w=w:=by
  have:waits w.n=none:=by unfold waits;rw[h.ss]
  unfold dq;rw[this]
 have j:∀u:Wk,u.n.book.aA=[]->fe u=u:=fun u k=>by
  have:waits u.n=none:=by unfold waits;rw[k]
  unfold fe;rw[this]
 have c:(dG w).n.dr.ai.af=w.n.dr.ai.af/\(dG w).n.book=w.n.book/\(dG w).n.dr.aQ=0/\(dG w).n.dr.need=[]/\dC (dG w).n.dr=true:=by
  have:=h.ok;have:=h.th;have:=h.nd
  unfold dG
  split
  .refine ⟨rfl,rfl,h.th,h.nd,?_⟩
   have d:=ic.1 h.ok
   have f:=jn.1 d.1
   exact ic.2 ⟨jn.2 ⟨f.1,show(0:Int)<=1 by decide,show(1:Int)<=2 by decide,f.2.2.2⟩,d.2⟩
  .exact ⟨rfl,rfl,h.th,h.nd,h.ok⟩
 have l:∀x∈(fF (dG w)).n.dr.ai.af,x.state≠2:=by
  intro x a
  have m:=(aqd c.2.2.2.2).2.1
  have:amP x∈(lC (dG w).n.dr).1.ai.af.map amP:=aks a
  rw[m,c.1]at this
  have⟨y,p,g⟩:=aiK.1 this
  have:=h.st y p
  simp only[amP,aca]at g
  rw[<-g.2.2];exact this
 unfold Wk.iw
 rw[hA,i,j _ (by show(dG w).n.book.aA=[];rw[c.2.1];exact h.ss)]
 refine aqb fun x a=>?_
 have q:∀u:Wk,(iN u).n.dr=u.n.dr:=fun u=>by unfold iN;split<;>rfl
 rw[q]at a
 exact l x a
structure Nk(n:Nd)(i N:Nat):Prop where
 q:Qb n
 id:n.dr.ai.id=i
 lt:i<N
 N64:N<=64
 bk:n.book=⟨0,[]⟩
 kn:mL (-1) n.known=true
 ep:∀x∈n.dr.ai.af,x.aP=1/\gR n.known x.peer=1/\0<=x.peer/\x.peer<N/\ ¬(x.dc=true/\x.ask=true)/\(x.state=0\/x.state=1/\(i:Int)<x.peer)
 kz:∀p,cJ n.dr.ai.af p=false->gR n.known p=0
def Nk.ok{n:Nd}{i N:Nat}(h:Nk n i N)(e:ek n.told=true)(g:∀p∈n.told,p∈u9 n):dm n=true:=by
 have j:n.book.aA=[]:=by rw[h.bk]
 have k:cN n.book=true:=by rw[h.bk];rfl
 have l:n.dr.ai.af.any (lU n)=false:=by rw[aja];intro x m;have⟨a,b,c,d,_,f⟩:=h.ep x m;have:=h.N64;have r:=h.id;unfold lU;simp only[Nd.id,ai9,abR,decide_eq_true_eq,afa,decide_eq_false_iff_not];omega
 have o:=h.q.aq;have s:=h.id;have t:=h.lt;have u:=h.N64;unfold dm pF sj sU;rw[j,h.q.ok,k,o,h.kn,l,e,KH.2 g,h.q.th,h.q.nd];have:(n.dr.ai.id:Int)<64:=by omega
 simp[kN,jZ,cD,gv,dt,this]
def Nk.sd{n:Nd}{i N:Nat}(h:Nk n i N):n.dr.ai.af.Pairwise fun x y=>x.peer<y.peer:=(zR (jn.1 (ic.1 h.q.ok).1).2.2.2.2).1
def Nk.ne{n:Nd}{i N:Nat}(h:Nk n i N):∀x∈n.dr.ai.af,x.peer≠i:=by
 have d:=(jn.1 (ic.1 h.q.ok).1).2.2.2.2
 have:∀(l:List aI) (c:Int),dU n.dr.ai.id c l=true->∀x∈l,x.peer≠n.dr.ai.id:=fun l=>by
  induction l with
  |nil=>simp
  |cons y r e=>
   intro c a x b;simp only[dU,cS,abR,afa,decide_eq_false_iff_not]at a;rcases aeM.1 b with rfl|b
   .exact a.1.1.1.1.1.1.2
   .exact e _ a.2 x b
 rw[<-h.id];exact this _ _ d
def j6(l:List aI)(p:Int):Option aI:=l.find? (j8 p)
theorem am4(y:aI)(r:List aI)(p:Int):j6 (y::r) p=if y.peer=p then some y else j6 r p:=by unfold j6 j8;grind
def anR{g:aI->aI}(a:∀x,(g x).peer=x.peer)(p:Int):∀l:List aI,j6 (l.map g) p=(j6 l p).map g
 |[]=>rfl
 |x::r=>by
  have:=anR a p r
  rw[ag9,am4,am4,a]
  grind
def anS{q:Int}{f:aI->aI}(a:∀x,(f x).peer=x.peer)(p:Int):∀l:List aI,j6 (setAt (j8 q) f l) p=if p=q then(j6 l q).map f else j6 l p
 |[]=>by simp[j6,setAt]
 |x::r=>by
  have:=anS (q:=q) a p r
  have:=a x
  grind [setAt,am4,j8]
def aoN{x:aI}{p:Int}:∀ {l:List aI},cJ l x.peer=false->j6 (fR x l) p=if x.peer=p then some x else j6 l p
 |[],h=>by grind [fR,am4]
 |y::r,h=>by
  have:=aoN (x:=x) (p:=p) (l:=r)
  grind [fR,am4,cJ]
def anh{l:List aI}{p:Int}{x:aI}(h:j6 l p=some x):x∈l/\x.peer=p:=by have b:=ajU h;have a:=akS h;simp only[j8,decide_eq_true_eq]at a;exact⟨b,a⟩
def anN{x:aI}:∀ {l:List aI},(l.Pairwise fun x y=>x.peer<y.peer)->x∈l->j6 l x.peer=some x
 |y::r,h,a=>by
  rw[am4]
  rcases aeM.1 a with rfl|a
  .rw[if_pos rfl]
  .rw[if_neg (by have:=(ahg.1 h).1 x a;omega)]
   exact anN (ahg.1 h).2 a
def anx{l:List aI}{p:Int}:j6 l p=none↔cJ l p=false:=by unfold j6 cJ j8;rw[alW,aja]
def an6{d d1:Dr}{e:List cB}(h:dC d=true)(a:cq d=(d1,e))(b:cq d1=(d1,[])):lC d=(d1,e,0):=by
 by_cases c:d1=d
 .subst c;rw[a]at b;cases b;rw[aqL (by rw[a]) h,a]
 .have:=aqp (d:=d) (by rw[a];exact c) (by rw[a,b]) h;rw[this,a,b,aeU]
def aol{g:aI->aI×List cB}:∀ {l:List aI},(∀x∈l,g x=(x,[]))->(l.map fun x=>(g x).1)=l/\(l.flatMap fun x=>(g x).2)=[]
 |[],_=>⟨rfl,rfl⟩
 |x::r,h=>by
  have a:=aol (g:=g) (l:=r) fun y b=>h y (by simp[b])
  rw[ag9,aiz,h x (by simp),a.1,a.2]
  exact⟨rfl,rfl⟩
def still{d:Dr}(h:dC d=true)(g:d.aQ=0)(hn:d.need=[])(i:∀x∈d.ai.af, ¬(x.dc=true/\x.ask=true))(hp:eG d=d.ai.phase)
  (j:∀x∈d.ai.af,cI d.ai.id d.ai.phase x=(x,[])) (k:d.ai.phase=1->∃x∈d.ai.af,x.fork=false):cq d=(d,[]):=by
 have⟨l,m⟩:=aol j
 rw[an9 h g hn i,hp]
 unfold amV
 rw[l,m,if_neg]
 .have ⟨⟨a,b,c⟩,e,f⟩:=d
  simp only at g hn
  subst g hn
  rfl
 .rintro⟨a,b⟩
  have⟨x,n,o⟩:=k a
  have:=ahI.1 b x n
  rw[o]at this;cases this
def apk{a:Int}{e:aI}{h:aI->List cB}:∀ {l:List aI},(l.Pairwise fun x y=>x.peer<y.peer)->j6 l a=some e->(∀y∈l,y.peer≠a->h y=[])->l.flatMap h=h e
 |y::r,hp,b,d=>by
  rw[am4]at b
  have f:=ahg.1 hp
  rw[aiz]
  split at b
  .cases b
   have:r.flatMap h=[]:=List.flatMap_eq_nil_iff.2 fun z c=>d z (by simp[c]) (by have:=f.1 z c;omega)
   rw[this,aeU]
  .rename_i g
   rw[d y (by simp) g,aiD]
   exact apk f.2 b fun z c=>d z (by simp[c])
def anT{a:Int}:∀ {l:List aI},(∀y∈l,y.aP=1)->l.find? (jN a 1)=j6 l a
 |[],_=>rfl
 |y::r,h=>by
  have:=anT (a:=a) (l:=r) fun z b=>h z (by simp[b])
  have c:=h y (by simp)
  rw[am4,akh,this]
  unfold jN
  grind
def aoL{a:Int}{f:aI->aI}:∀ {l:List aI},(∀y∈l,y.aP=1)->setAt (jN a 1) f l=setAt (j8 a) f l
 |[],_=>rfl
 |y::r,h=>by
  have:=aoL (a:=a) (f:=f) (l:=r) fun z b=>h z (by simp[b])
  have c:=h y (by simp)
  unfold setAt
  rw[this]
  unfold jN j8
  grind
def Qs(x:aI):Prop:=x.state=0/\((x.fork=true/\x.cK=true/\x.token=false)\/(x.fork=false/\x.cK=false/\x.token=true))
structure Nq(n:Nd)(i N:Nat):Prop where
 k:Nk n i N
 ph:n.dr.ai.phase=0
 tl:n.told=[]
 sd:∀x∈n.dr.ai.af,Qs x
def Nq.ok{n:Nd}{i N:Nat}(h:Nq n i N):dm n=true:=h.k.ok (by rw[h.tl];rfl) (by rw[h.tl];simp)
def Nk.apm{n:Nd}{i N:Nat}(h:Nk n i N){j:Int}{l:List aI}{told:List Int}(hp:0<=j/\j<=2)(u:dU n.dr.ai.id (-1) l=true)(v:l.length=n.dr.ai.af.length)(o:∀x∈l, ∃y∈n.dr.ai.af,x.peer=y.peer/\x.aP=y.aP/\(x.state=y.state\/x.state=0)/\x.dc=y.dc/\x.ask=y.ask)(w:∀p,cJ l p=cJ n.dr.ai.af p):Nk ⟨⟨⟨n.dr.ai.id,j,l⟩,n.dr.aQ,n.dr.need⟩,n.book,n.known,told,n.asked⟩ i N:=by
 have g:=ic.1 h.q.ok;have r:=jn.1 g.1;refine⟨⟨ic.2 ⟨jn.2 ⟨r.1,hp.1,hp.2,by rw[v];exact r.2.2.2.1,u⟩,g.2.1,g.2.2.1,g.2.2.2.1,g.2.2.2.2.1,by rw[h.q.nd];simp⟩,h.q.th,h.q.nd,h.q.ss,h.q.aq,fun x k=>?_⟩,h.id,h.lt,h.N64,h.bk,h.kn,fun x k=>?_,fun p hp=>h.kz p (by rw[<-w];exact hp)⟩
 .have ⟨y,m,s,t,z,_⟩:=o x k;have:=h.q.st y m;omega
 .have ⟨y,m,s,t,z,A,B⟩:=o x k;have⟨a,b,c,d,e,f⟩:=h.ep y m;rw[s,t,A,B];exact⟨a,b,c,d,e,by omega⟩
theorem Nk.bH{n:Nd}{i N:Nat}(h:Nk n i N){ph:Int}{l:List aI}{told:List Int}(hp:0<=ph/\ph<=2)(f:dU n.dr.ai.id (-1) l=true)(g:l.length=n.dr.ai.af.length)(j:∀x∈l, ∃y∈n.dr.ai.af,x.peer=y.peer/\x.aP=y.aP/\x.state=y.state/\x.dc=y.dc/\x.ask=y.ask)(k:∀p,cJ l p=cJ n.dr.ai.af p):Nk ⟨⟨⟨n.dr.ai.id,ph,l⟩,n.dr.aQ,n.dr.need⟩,n.book,n.known,told,n.asked⟩ i N:=
 h.apm hp f g (fun x m=>by have⟨y,a,b,c,d,e⟩:=j x m;exact⟨y,a,b,c,.inl d,e⟩) k
def aou{q:Int}{f:aI->aI}{l:List aI}{x:aI}(a:x∈setAt (j8 q) f l)(b:∀x,(f x).peer=x.peer/\(f x).aP=x.aP/\(f x).state=x.state/\(f x).dc=x.dc/\(f x).ask=x.ask):∃y∈l,x.peer=y.peer/\x.aP=y.aP/\x.state=y.state/\x.dc=y.dc/\x.ask=y.ask:=by
 rcases anX a with h|⟨y,c,_,rfl⟩
 .exact ⟨x,h,rfl,rfl,rfl,rfl,rfl⟩
 .exact ⟨y,c,b y⟩
def anG{w v f:Wk}(h:jt w v)(d:w.iw=f)(b:f.iw=f)(hn:f.n=w.n->f=w):v=f:=by
 by_cases c:f.n=w.n
 .have:=hn c;subst this;exact aph h 0 (fun _=>f) rfl (fun j a=>by omega) rfl b fun j a=>by omega
 .refine aph h 1 (fun j=>if j=0 then w else f) rfl (fun j a=>?_) rfl b fun j a=>?_
  .have:j=0:=by omega
   subst this;exact d.symm
  .have:j=0:=by omega
   subst this;exact c
def anl{w:Wk}(h:w.n.dr.ai.phase≠0\/∀x∈w.n.dr.ai.af,x.state≠1):dG w=w:=by
 unfold dG;rw[if_neg];rintro⟨b,c⟩;rcases h with h|h
 .exact h b
 .have ⟨x,d,a⟩:=akq.1 c;unfold untold r9 at a;have:=h x d;simp[this]at a
def anC{w:Wk}{d1:Dr}{a:List cB}(b:Qb w.n)(c:∀x∈w.n.dr.ai.af, ¬(x.dc=true/\x.ask=true))(hc:dG w=w)(d:cq w.n.dr=(d1,a))(f:cq d1=(d1,[]))(hp:d1.ai.phase≠2):w.iw=⟨w.n.di d1,w.out++a,w.seen,w.e⟩:=by rw[aos b c,hc];unfold fF;rw[an6 b.ok d f];exact if_neg hp
def am3(l:List aI)(p:Int):cJ l p=(j6 l p).isSome:=by
 cases h:j6 l p with
 |none=>exact anx.1 h
 |some x=>
  cases a:cJ l p with
  |true=>rfl
  |false=>rw[anx.2 a]at h;cases h
def anB{id:Int}{y:aI}(h:Qs y):cI id 0 y=(y,[]):=by unfold Qs at h;unfold cI;grind
def aps{id:Int}{x:aI}(a:x.fork=true)(b:x.cK=true):cI id 0 {x with token:=true}=({x with fork:=false,cK:=false,token:=true},[⟨id,x.peer,⟨1,x.aP,0⟩⟩]):=by unfold cI;simp[a,b,ft]
def anz{d:Dr}(a:d.aQ=0)(hp:d.ai.phase≠2):eG d=d.ai.phase:=by unfold eG;rw[if_neg (by simp[a]),if_neg (by simp[hp])]
def apY{m:Nd}{i N:Nat}{a:Int}{x:aI}{u:Wk}(h:Nq m i N)(t:j6 m.dr.ai.af a=some x)(H:x.fork=true):
  (fK m a ⟨2,1,0⟩).e=0/\(jt (fK m a ⟨2,1,0⟩) u->u.out=[⟨i,a,⟨1,1,0⟩⟩]/\Nq u.n i N/\u.n.known=m.known/\∀p,j6 u.n.dr.ai.af p=if p=a then some {x with fork:=false,cK:=false,token:=true}else j6 m.dr.ai.af p):=by
 have⟨E,S⟩:=anh t
 have I:=h.sd x E
 have J:x.cK=true/\x.token=false:=by unfold Qs at I;grind
 have A:∀y∈m.dr.ai.af,y.aP=1:=fun y b=>(h.k.ep y b).1
 have ad:=h.ok
 have⟨d,B⟩:=eg (⟨⟨m.dr.ai.id,m.dr.ai.phase,setAt (j8 a) (fun x=>{x with token:=true}) m.dr.ai.af⟩,m.dr.aQ,m.dr.need⟩:Dr)
 have hg:Bk m.dr a ⟨2,1,0⟩=(d,0):=by
  have h0:jT m.dr.ai a ⟨2,1,0⟩=(⟨m.dr.ai.id,m.dr.ai.phase,setAt (j8 a) (fun x=>{x with token:=true}) m.dr.ai.af⟩,0):=by
   unfold jT
   rw[if_neg (by simp[(ic.1 h.k.q.ok).1]),anT A,t]
   simp[J.2,aoL A]
  unfold Bk
  rw[if_neg (by simp[h.k.q.ok]),anT A,t,h0]
  simp[<-B]
 have⟨w,s⟩:=eg (⟨m.di d,[],[],0⟩:Wk)
 have hN:fK m a ⟨2,1,0⟩=w:=by
  unfold fK iU lr Wk.sC bg Wk.need
  have v:m.dr.ai.af.find? (j8 a)=some x:=t
  simp[ad,v,A x E,hg, <-s,Wk.put,Nd.di]
 rw[hN]
 refine⟨by rw[<-s],fun hu=>?_⟩
 have ae:=h.k.sd
 have K:Nk w.n i N:=by
  rw[<-s]
  have:=h.k.bH (ph:=m.dr.ai.phase) (l:=setAt (j8 a) (fun x=>{x with token:=true}) m.dr.ai.af) (told:=m.told) (by rw[h.ph];omega)
   (PK (f:=fun x=>{x with token:=true}) (fun x _=>⟨rfl,fun am hl=>hl⟩) (jn.1 (ic.1 h.k.q.ok).1).2.2.2.2) (anD _) (fun y b=>aou b fun _=>⟨rfl,rfl,rfl,rfl,rfl⟩) (fun p=>zt (f:=fun x=>{x with token:=true}) (fun _ _=>rfl) p _)
  unfold Nd.di
  rw[<-B]
  exact this
 have C:d.ai.af=setAt (j8 a) (fun x=>{x with token:=true}) m.dr.ai.af:=by rw[<-B]
 have T:d.ai.phase=0:=by rw[<-B];exact h.ph
 have ag:d.ai.id=i:=by rw[<-B];exact h.k.id
 have o:w.n.dr=d:=by rw[<-s];rfl
 have F:=K.q
 have L:∀y∈d.ai.af,Qs y\/y={x with token:=true}:=fun y b=>by
  rw[C]at b
  rcases anX b with b|⟨z,r,hp,rfl⟩
  .exact .inl (h.sd y b)
  .have:j6 m.dr.ai.af z.peer=some z:=anN ae r
   simp only[j8,decide_eq_true_eq]at hp
   rw[hp,t]at this
   cases this
   exact .inr rfl
 have U:∀y∈d.ai.af, ¬(y.dc=true/\y.ask=true):=fun y b=>(K.ep y (by rw[o];exact b)).2.2.2.2.1
 have V:dC d=true:=by rw[<-o];exact F.ok
 have W:d.aQ=0:=by rw[<-o];exact F.th
 have ah:d.need=[]:=by rw[<-o];exact F.nd
 have aj:d.ai.af.Pairwise fun x y=>x.peer<y.peer:=by rw[<-o];exact K.sd
 have M:j6 d.ai.af a=some {x with token:=true}:=by
  rw[C,anS (f:=fun x=>{x with token:=true}) (fun _=>rfl),if_pos rfl,t];rfl
 have⟨g,G⟩:=eg (fun x:aI=>(cI (i:Int) 0 x).1)
 have gp:∀y,(g y).peer=y.peer:=fun y=>by rw[<-G];unfold cI;grind
 have⟨d1,j⟩:=eg (⟨⟨(i:Int),0,d.ai.af.map g⟩,0,[]⟩:Dr)
 have X:cq d=(d1,[⟨i,a,⟨1,1,0⟩⟩]):=by
  rw[an9 V W ah U,anz W (by rw[T];decide),T,ag]
  have:(d.ai.af.flatMap fun x=>(cI (i:Int) 0 x).2)=[⟨i,a,⟨1,1,0⟩⟩]:=by
   rw[apk aj M fun y b Y=>?_,aps H J.1]
   .simp[S,A x E]
   .rcases L y b with h|h
    .rw[anB h]
    .rw[h]at Y;exact absurd S Y
  unfold amV
  rw[if_neg (by simp),this, <-j,G]
 have Z:g {x with token:=true}={x with fork:=false,cK:=false,token:=true}:=by rw[<-G];simp only[aps H J.1]
 have gq:∀y,Qs y->g y=y:=fun y h=>by rw[<-G];simp only[anB h]
 have D:∀y∈d1.ai.af,Qs y/\∃z∈m.dr.ai.af,y.peer=z.peer/\y.aP=z.aP/\y.state=z.state/\y.dc=z.dc/\y.ask=z.ask:=fun y b=>by
  rw[<-j]at b
  obtain⟨z,r,rfl⟩:=aiK.1 b
  rcases L z r with v|v
  .rw[gq z v]
   refine⟨v,?_⟩
   rw[C]at r
   exact aou r fun _=>⟨rfl,rfl,rfl,rfl,rfl⟩
  .rw[v,Z]
   exact⟨⟨I.1,.inr ⟨rfl,rfl,rfl⟩⟩,x,E,rfl,rfl,rfl,rfl,rfl⟩
 have aa:dC d1=true:=by have:=Rg V;rw[X]at this;exact this
 have O:∀p,j6 d1.ai.af p=if p=a then some {x with fork:=false,cK:=false,token:=true}else j6 m.dr.ai.af p:=fun p=>by
  rw[<-j]
  show j6 (d.ai.af.map g) p=_
  rw[anR gp]
  by_cases c:p=a
  .rw[c,M,if_pos rfl,ajO,Z]
  .rw[if_neg c,C,anS (f:=fun x=>{x with token:=true}) (fun _=>rfl),if_neg c]
   cases r:j6 m.dr.ai.af p with
   |none=>rfl
   |some z=>rw[ajO,gq z (h.sd z (anh r).1)]
 have P:cq d1=(d1,[]):=by
  refine still aa (by rw[<-j]) (by rw[<-j]) (fun y b=>?_) (anz (by rw[<-j]) (by rw[<-j];show(0:Int)≠2;decide)) (fun y b=>?_) (fun c=>?_)
  .have ⟨_,z,r,_,_,_,e4,e5⟩:=D y b
   rw[e4,e5];exact(h.k.ep z r).2.2.2.2.1
  .rw[show d1.ai.phase=0 by rw[<-j]];exact anB (D y b).1
  .rw[<-j]at c;cases c
 have Q:Nk (w.n.di d1) i N:=by
  have ab:d1=⟨⟨m.dr.ai.id,0,d1.ai.af⟩,m.dr.aQ,m.dr.need⟩:=by
   rw[<-j,h.k.q.th,h.k.q.nd,h.k.id]
  have:=h.k.bH (ph:=0) (l:=d1.ai.af) (told:=m.told) (by omega) (by have:=(jn.1 (ic.1 aa).1).2.2.2.2;rw[ab]at this;exact this) (by rw[<-j];simp[C,anD]) (fun y b=>(D y b).2) fun p=>by
   rw[am3,am3,O]
   split
   .rename_i c;rw[c,t];rfl
   .rfl
  rw[<-ab]at this
  rw[<-s]
  exact this
 have R:d1.ai.phase=0:=by rw[<-j]
 have ak:w.iw=⟨w.n.di d1,[⟨i,a,⟨1,1,0⟩⟩],[],0⟩:=by
  rw[anC F (fun y b=>U y (by rw[<-o];exact b)) (anl (.inr fun y b=>?_)) (by rw[o];exact X) P (by rw[R];decide), <-s]
  .rfl
  .rcases L y (by rw[<-o];exact b)with h|h
   .rw[h.1];decide
   .rw[h];show x.state≠1;rw[I.1];decide
 have al:(⟨w.n.di d1,[⟨i,a,⟨1,1,0⟩⟩],[],0⟩:Wk).iw=⟨w.n.di d1,[⟨i,a,⟨1,1,0⟩⟩],[],0⟩:=by
  rw[anC (w:=⟨w.n.di d1,[⟨i,a,⟨1,1,0⟩⟩],[],0⟩) Q.q (fun y b=>(Q.ep y b).2.2.2.2.1) (anl (.inr fun y b=>?_)) P P (by rw[R];decide)]
  .rw[aeU];rfl
  .rw[(D y b).1.1];decide
 have:=anG hu ak al fun c=>by
  exfalso
  have:j6 d1.ai.af a=j6 d.ai.af a:=by rw[<-o, <-c];rfl
  rw[O,if_pos rfl,M,ab1]at this
  have:false=x.fork:=congrArg aI.fork this
  rw[H]at this;cases this
 rw[this]
 exact⟨rfl,⟨Q,R,by rw[<-s];exact h.tl,fun y b=>(D y b).1⟩,by rw[<-s];rfl,O⟩
def aoD{id:Int}{P:Int}:∀(l:List aI) (out:List cB),(∀x∈l,x.state=1->x.peer=P)->jq id l [P] out=([P],out)
 |[],out,_=>rfl
 |x::r,out,h=>by
  unfold jq
  rw[if_neg]
  .exact aoD r out fun y b=>h y (by simp[b])
  .rintro⟨a,c⟩
   simp only[r9,decide_eq_true_eq]at a
   exact c (by rw[h x (by simp) a];simp)
def aoQ{id P:Int}{a:aI}:∀(l:List aI) (out:List cB),(l.Pairwise fun x y=>x.peer<y.peer)->a∈l->a.state=1->a.peer=P->(∀x∈l,x.state=1->x.peer=P)->jq id l [] out=([P],out++[⟨id,P,⟨5,a.aP,0⟩⟩])
 |x::r,out,hp,b,e,c,h=>by
  have f:=ahg.1 hp
  unfold jq
  rcases aeM.1 b with rfl|b
  .rw[if_pos ⟨by simp[r9,e],by simp⟩]
   have:gD [] [a.peer]=[P]:=by rw[c];rfl
   rw[this,aoD r _ fun y d=>h y (by simp[d])]
   simp[ft,c]
  .rw[if_neg]
   .exact aoQ r out f.2 b e c fun y d=>h y (by simp[d])
   .rintro⟨g,_⟩
    simp only[r9,decide_eq_true_eq]at g
    have:=h x (by simp) g
    have:=f.1 a b
    omega
structure Nh(n:Nd)(i N:Nat)(P:Int):Prop where
 k:Nk n i N
 ph:n.dr.ai.phase=1
 tl:n.told=[]
 sd:∀x∈n.dr.ai.af,x.token=false/\(x.state=1->x.peer=P)
 op:∃x∈n.dr.ai.af,x.peer=P/\x.state=1
 mi:∃x∈n.dr.ai.af,x.fork=false
structure Ne(n:Nd)(i N:Nat)(P:Int):Prop where
 k:Nk n i N
 ph:n.dr.ai.phase=2
 tl:n.told=[P]
 sd:∀x∈n.dr.ai.af,x.fork=true/\x.cK=true/\x.token=false/\(x.state=1->x.peer=P)
 op:∃x∈n.dr.ai.af,x.peer=P/\x.state=1
def Nh.ok{n:Nd}{i N:Nat}{P:Int}(h:Nh n i N P):dm n=true:=h.k.ok (by rw[h.tl];rfl) (by rw[h.tl];simp)
def Ne.ok{n:Nd}{i N:Nat}{P:Int}(h:Ne n i N P):dm n=true:=h.k.ok (by rw[h.tl];rfl) (by rw[h.tl];intro p hp;have⟨x,a,b,c⟩:=h.op;rw[akz.1 hp, <-b];exact aks (ajH.2 ⟨a,by simp[r9,c]⟩))
def gH(x:aI):aI:=if x.token&&!x.fork then{x with token:=false}else x
def apj{id:Int}{x:aI}(h:¬(x.fork=true/\x.token=true)):cI id 1 x=(gH x,if x.token=true then [⟨id,x.peer,⟨2,x.aP,0⟩⟩]else []):=by unfold cI gH ft;cases a:x.fork<;>cases b:x.token<;>simp_all
def ann(x:aI):(gH x).peer=x.peer/\(gH x).aP=x.aP/\(gH x).state=x.state/\(gH x).dc=x.dc/\(gH x).ask=x.ask/\(gH x).fork=x.fork/\(gH x).cK=x.cK:=by unfold gH;split<;>simp
def apX{x:aI}(h:¬(x.fork=true/\x.token=true)):(gH x).token=false:=by unfold gH;grind
section
def aqa{id:Int}(x:aI):cI id 2 x=(x,[]):=by unfold cI;simp
def amX(i:Int)(l:List aI):List cB:=l.flatMap fun x=>if x.token=true then [⟨i,x.peer,⟨2,x.aP,0⟩⟩]else []
def aoz{i:Int}{l:List aI}(h:∀x∈l,x.token=false):amX i l=[]:=List.flatMap_eq_nil_iff.2 fun x a=>by simp[h x a]
def apd{g:aI->aI}{l:List aI}(h:∀x∈l,g x=x):l.map g=l:=by have:=ajp h;rw[this,List.map_id']
section
variable{w u v:Wk}{i N:Nat}{P:Int}
def anU(Y:jt w v)(hq:Qb w.n)(hb:∀x∈w.n.dr.ai.af, ¬(x.dc=true/\x.ask=true))(t:w.e=0/\w.seen=[])(hu:dG w=u)(C:u.out=w.out/\u.seen=w.seen/\u.e=w.e)(s:Nk u.n i N)(ph:u.n.dr.ai.phase=1)(Z:u.n.told=[])(sd:∀x∈u.n.dr.ai.af, ¬(x.fork=true/\x.token=true)/\(x.state=1->x.peer=P))(op:∃x∈u.n.dr.ai.af,x.peer=P/\x.state=1)(ak:w.n.dr.ai.phase=0\/∀x∈u.n.dr.ai.af,x.token=false)(aa:w.n.dr.ai.phase=0\/u=w):
  ((∃x∈u.n.dr.ai.af,x.fork=false)/\v.out=w.out++amX i u.n.dr.ai.af/\Nh v.n i N P/\v.n.known=u.n.known/\∀p,j6 v.n.dr.ai.af p=(j6 u.n.dr.ai.af p).map gH)\/
  ((∀x∈u.n.dr.ai.af,x.fork=true)/\v.out=w.out++[⟨i,P,⟨5,1,0⟩⟩]/\Ne v.n i N P/\v.n.known=u.n.known/\∀p,j6 v.n.dr.ai.af p=(j6 u.n.dr.ai.af p).map fun x=>{x with cK:=true}):=by
 have al:∀x∈u.n.dr.ai.af, ¬(x.dc=true/\x.ask=true):=fun x k=>(s.ep x k).2.2.2.2.1
 have E:=s.q.ok
 have L:=s.q.th
 have R:=s.q.nd
 have S:u.n.dr.ai.id=i:=s.id
 have ab:∀x∈u.n.dr.ai.af,cI (i:Int) 1 x=(gH x,if x.token=true then [⟨(i:Int),x.peer,⟨2,x.aP,0⟩⟩]else []):=fun x k=>apj (sd x k).1
 have m1:(u.n.dr.ai.af.map fun x=>(cI (i:Int) 1 x).1)=u.n.dr.ai.af.map gH:=ajp fun x k=>by rw[ab x k]
 have m2:(u.n.dr.ai.af.flatMap fun x=>(cI (i:Int) 1 x).2)=amX i u.n.dr.ai.af:=by
  unfold amX
  have:∀l:List aI,(∀x∈l,cI (i:Int) 1 x=(gH x,if x.token=true then [⟨(i:Int),x.peer,⟨2,x.aP,0⟩⟩]else []))->(l.flatMap fun x=>(cI (i:Int) 1 x).2)=l.flatMap fun x=>if x.token=true then [⟨(i:Int),x.peer,⟨2,x.aP,0⟩⟩]else []:=fun l=>by
   induction l with
   |nil=>simp
   |cons x av ih=>
    intro h
    rw[aiz,aiz,h x (by simp),ih fun y m=>h y (by simp[m])]
  exact this _ ab
 have am:eG u.n.dr=1:=by rw[anz L (by rw[ph];decide),ph]
 have o:=an9 E L R al
 rw[am,S]at o
 unfold amV at o
 rw[m1,m2]at o
 have w1:=aos hq hb
 rw[hu]at w1
 by_cases c:∃x∈u.n.dr.ai.af,x.fork=false
 .refine .inl ⟨c,?_⟩
  have⟨F,ad,T⟩:=c
  rw[if_neg (fun⟨_,h⟩=>by
   have:=ahI.1 h (gH F) (aks ad)
   rw[(ann F).2.2.2.2.2.1,T]at this;cases this)]at o
  have⟨d1,d⟩:=eg (⟨⟨(i:Int),1,u.n.dr.ai.af.map gH⟩,0,[]⟩:Dr)
  simp only at o
  rw[d]at o
  have D:dC d1=true:=by have:=Rg E;rw[o]at this;exact this
  have m:∀y∈d1.ai.af, ∃z∈u.n.dr.ai.af,y=gH z:=fun y m=>by
   rw[<-d]at m
   obtain⟨z,e,rfl⟩:=aiK.1 m
   exact⟨z,e,rfl⟩
  have j:d1.ai.phase=1:=by rw[<-d]
  have G:∀y∈d1.ai.af, ∃z∈u.n.dr.ai.af,y.peer=z.peer/\y.aP=z.aP/\y.state=z.state/\y.dc=z.dc/\y.ask=z.ask:=fun y h=>by
   obtain⟨z,e,rfl⟩:=m y h
   have⟨a,b,c,ae,an,_⟩:=ann z
   exact⟨z,e,a,b,c,ae,an⟩
  have M:∀y∈d1.ai.af,y.token=false:=fun y h=>by
   obtain⟨z,e,rfl⟩:=m y h
   exact apX (sd z e).1
  have H:∀p,j6 d1.ai.af p=(j6 u.n.dr.ai.af p).map gH:=fun p=>by
   rw[<-d];exact anR (fun x=>(ann x).1) p _
  have r:Nk (u.n.di d1) i N:=by
   have I:d1=⟨⟨u.n.dr.ai.id,1,d1.ai.af⟩,u.n.dr.aQ,u.n.dr.need⟩:=by
    rw[<-d,L,R,S]
   have:=s.bH (ph:=1) (l:=d1.ai.af) (told:=u.n.told) (by omega) (by have:=(jn.1 (ic.1 D).1).2.2.2.2;rw[I]at this;exact this) (by rw[<-d];simp) G fun p=>by
    rw[am3,am3,H,anm]
   rw[<-I]at this
   exact this
  have ag:gH F∈d1.ai.af:=by rw[<-d];exact aks ad
  have A:cq d1=(d1,[]):=by
   refine still D (by rw[<-d]) (by rw[<-d]) (fun y h=>(r.ep y h).2.2.2.2.1) ?_ (fun y h=>?_) fun _=>⟨_,ag,by rw[(ann F).2.2.2.2.2.1];exact T⟩
   .rw[anz (by rw[<-d]) (by rw[j];decide)]
   .rw[j,apj (by rw[M y h];simp),M y h]
    have:gH y=y:=by unfold gH;rw[M y h];rfl
    rw[this];rfl
  have J:w.iw=⟨u.n.di d1,w.out++amX i u.n.dr.ai.af,[],0⟩:=by
   rw[w1]
   unfold fF
   rw[an6 E o A,C.1,C.2.1,C.2.2,t.1,t.2]
   exact if_neg (by show ¬d1.ai.phase=2;rw[j];decide)
  have U:(⟨u.n.di d1,w.out++amX i u.n.dr.ai.af,[],0⟩:Wk).iw=⟨u.n.di d1,w.out++amX i u.n.dr.ai.af,[],0⟩:=by
   rw[anC (w:=⟨u.n.di d1,w.out++amX i u.n.dr.ai.af,[],0⟩) r.q (fun y h=>(r.ep y h).2.2.2.2.1) (anl (.inl (by show d1.ai.phase≠0;rw[j];decide))) A A (by rw[j];decide)]
   rw[aeU];rfl
  have:=anG Y J U fun c=>by
   rcases ak with h|h
   .have:d1.ai.phase=w.n.dr.ai.phase:=by rw[<-c];rfl
    rw[j,h]at this;cases this
   .rcases aa with h'|h'
    .have:d1.ai.phase=w.n.dr.ai.phase:=by rw[<-c];rfl
     rw[j,h']at this;cases this
    .have c:u.n.di d1=w.n:=c
     rw[aoz h,aeU,c]
     have⟨a,b,c',ae⟩:=w
     simp only at t
     rw[t.1,t.2]
  rw[this]
  refine⟨rfl,⟨r,j,Z,fun y h=>⟨M y h,fun O=>?_⟩,?_,⟨_,ag,by rw[(ann F).2.2.2.2.2.1];exact T⟩⟩,rfl,H⟩
  .have ⟨z,e,a,_,b,_⟩:=G y h
   rw[a];exact(sd z e).2 (by rw[<-b];exact O)
  .have ⟨z,e,a,b⟩:=op
   have⟨p1,_,p3,_⟩:=ann z
   exact⟨gH z,by show gH z∈d1.ai.af;rw[<-d];exact aks e,p1.trans a,p3.trans b⟩
 .have Q:∀x∈u.n.dr.ai.af,x.fork=true:=fun x k=>by
   cases J:x.fork with
   |true=>rfl
   |false=>exact absurd ⟨x,k,J⟩ c
  have V:∀x∈u.n.dr.ai.af,x.token=false:=fun x k=>by
   have:=(sd x k).1
   rw[Q x k]at this
   simpa using this
  have ao:u.n.dr.ai.af.map gH=u.n.dr.ai.af:=apd fun x k=>by unfold gH;rw[V x k];rfl
  refine .inr ⟨Q,?_⟩
  rw[ao,if_pos ⟨rfl,ahI.2 fun x k=>Q x k⟩,aoz V]at o
  simp only at o
  have⟨d1,d⟩:=eg (⟨⟨(i:Int),2,u.n.dr.ai.af.map fun x=>{x with cK:=true}⟩,0,[]⟩:Dr)
  rw[d]at o
  have D:dC d1=true:=by have:=Rg E;rw[o]at this;exact this
  have j:d1.ai.phase=2:=by rw[<-d]
  have ap:d1.ai.id=i:=by rw[<-d]
  have m:∀y∈d1.ai.af, ∃z∈u.n.dr.ai.af,y={z with cK:=true}:=fun y m=>by
   rw[<-d]at m
   obtain⟨z,e,rfl⟩:=aiK.1 m
   exact⟨z,e,rfl⟩
  have G:∀y∈d1.ai.af, ∃z∈u.n.dr.ai.af,y.peer=z.peer/\y.aP=z.aP/\y.state=z.state/\y.dc=z.dc/\y.ask=z.ask:=fun y h=>by
   obtain⟨z,e,rfl⟩:=m y h
   exact⟨z,e,rfl,rfl,rfl,rfl,rfl⟩
  have H:∀p,j6 d1.ai.af p=(j6 u.n.dr.ai.af p).map fun x=>{x with cK:=true}:=fun p=>by
   rw[<-d];exact anR (g:=fun x=>{x with cK:=true}) (fun _=>rfl) p _
  have r:∀told,Nk ⟨d1,u.n.book,u.n.known,told,u.n.asked⟩ i N:=fun told=>by
   have I:d1=⟨⟨u.n.dr.ai.id,2,d1.ai.af⟩,u.n.dr.aQ,u.n.dr.need⟩:=by
    rw[<-d,L,R,S]
   have:=s.bH (ph:=2) (l:=d1.ai.af) (told:=told) (by omega) (by have:=(jn.1 (ic.1 D).1).2.2.2.2;rw[I]at this;exact this) (by rw[<-d];simp) G fun p=>by
    rw[am3,am3,H,anm]
   rw[<-I]at this
   exact this
  have⟨z,e,ah,W⟩:=op
  have X:({z with cK:=true}:aI)∈d1.ai.af:=by rw[<-d];exact aks (f:=fun x:aI=>{x with cK:=true}) e
  have aq:eG d1=2:=by
   unfold eG
   rw[if_neg (by rw[<-d];simp),if_neg,j]
   rintro⟨_,_,h⟩
   have:=aja.1 h _ X
   simp[r9,W]at this
  have A:cq d1=(d1,[]):=still D (by rw[<-d]) (by rw[<-d]) (fun y h=>((r []).ep y h).2.2.2.2.1) (by rw[aq,j]) (fun y h=>by rw[j];exact aqa y) fun h=>by rw[j]at h;cases h
  have O:∀y∈d1.ai.af,y.state=1->y.peer=P:=fun y h h1=>by
   have⟨z,e,a,_,b,_⟩:=G y h
   rw[a];exact(sd z e).2 (by rw[<-b];exact h1)
  have ar:d1.ai.af.Pairwise fun x y=>x.peer<y.peer:=(r []).sd
  have au:z.aP=1:=(s.ep z e).1
  have⟨f,B⟩:=eg (⟨⟨d1,u.n.book,u.n.known,[P],u.n.asked⟩,w.out++[⟨i,P,⟨5,1,0⟩⟩],[],0⟩:Wk)
  have J:w.iw=f:=by
   rw[w1]
   unfold fF
   rw[an6 E o A,C.1,C.2.1,C.2.2,t.1,t.2,aeU]
   refine(if_pos (by show d1.ai.phase=2;exact j)).trans ?_
   unfold Wk.tell
   have:=aoQ (id:=d1.ai.id) d1.ai.af w.out ar X W ah O
   simp only[Nd.di,Nd.id,Nd.af,Z,this]
   rw[<-B,ap]
   simp only[au]
  have U:f.iw=f:=by
   have aj:Nk f.n i N:=by rw[<-B];exact r _
   rw[aos aj.q (fun y h=>(aj.ep y h).2.2.2.2.1),anl (.inl (by rw[<-B];show d1.ai.phase≠0;rw[j];decide))]
   unfold fF
   rw[show f.n.dr=d1 by rw[<-B],an6 D A A,aeU]
   refine(if_pos (by show d1.ai.phase=2;exact j)).trans ?_
   unfold Wk.tell
   have:∀out,jq d1.ai.id d1.ai.af [P] out=([P],out):=fun out=>aoD d1.ai.af out O
   rw[<-B]
   simp only[Nd.di,Nd.id,Nd.af,this]
  have:=anG Y J U fun c'=>by
   have K:f.n.dr.ai.phase=2:=by rw[<-B];exact j
   rw[c']at K
   rcases aa with h|h
   .rw[h]at K;cases K
   .rw[<-h,ph]at K;cases K
  rw[this, <-B]
  exact⟨rfl,⟨r _,j,rfl,fun y h=>by
   obtain⟨z,e,rfl⟩:=m y h
   exact⟨Q z e,rfl,V z e,(sd z e).2⟩,_,X,ah,W⟩,rfl,H⟩
end
end
def apq{p e:Int}(a:1<=e/\e<=65535)(hp:p<64):∀ {l:List cj} {b:Int},mL b l=true->b<p->mL b (fS p e l)=true
 |[],b,_,h=>by simp[fS,mL];omega
 |k::r,b,d,h=>by
  simp only[mL,abR,decide_eq_true_eq]at d
  unfold fS
  split
  .rename_i c
   simp only[mL,abR,decide_eq_true_eq]
   exact⟨⟨⟨⟨by omega,hp⟩,a.1⟩,a.2⟩,by rw[<-c];exact d.2⟩
  .split
   .simp only[mL,abR,decide_eq_true_eq]
    exact⟨⟨⟨⟨by omega,hp⟩,a.1⟩,a.2⟩,⟨⟨⟨by omega,by omega⟩,by omega⟩,by omega⟩,d.2⟩
   .simp only[mL,abR,decide_eq_true_eq]
    exact⟨⟨⟨⟨by omega,by omega⟩,by omega⟩,by omega⟩,apq a hp d.2 (by omega)⟩
theorem Nk.put{n:Nd}{i N:Nat}(h:Nk n i N){x:aI}{ph:Int}{told:List Int}(j:0<=ph/\ph<=2)(o:cJ n.dr.ai.af x.peer=false)(hp:0<=x.peer/\x.peer<N/\x.peer≠i)(f:x.aP=1)(r:¬(x.dc=true/\x.ask=true))(s:x.state=0\/x.state=1/\(i:Int)<x.peer)(t:x.cK=true->x.fork=true):
  Nk ⟨⟨⟨n.dr.ai.id,ph,fR x n.dr.ai.af⟩,n.dr.aQ,n.dr.need⟩,n.book,fS x.peer x.aP n.known,told,n.asked⟩ i N:=by
 have e:=ic.1 h.q.ok
 have k:=jn.1 e.1
 have hid:=h.id
 have D:=h.N64
 have E:=h.lt
 have u:=(yl h.kn).1
 have v:cS n.dr.ai.id (-1) x=true:=by
  simp only[cS,abR,afa,decide_eq_true_eq,decide_eq_false_iff_not,aki,ake]
  refine⟨⟨⟨⟨⟨⟨by omega,by omega⟩,by omega⟩,by omega⟩,by omega⟩,by omega⟩,?_⟩
  cases w:x.cK with
  |false=>exact .inl rfl
  |true=>exact .inr (t w)
 have l:=Fh k.2.2.2.2 v o
 have z:∀y∈fR x n.dr.ai.af,y.peer<64:=fun y d=>by
  rcases v7.1 d with rfl|d
  .omega
  .have:=(h.ep y d).2.2.2.1;omega
 have A:=wC (by omega:n.dr.ai.id<64) l z (by omega) (by omega)
 have B:(fR x n.dr.ai.af).length<64:=by
  split at A<;>omega
 have m:∀p,gR (fS x.peer x.aP n.known) p=if x.peer=p then x.aP else gR n.known p:=fun p=>aoV u
 refine⟨⟨ic.2 ⟨jn.2 ⟨k.1,j.1,j.2,B,l⟩,e.2.1,e.2.2.1,e.2.2.2.1,e.2.2.2.2.1,by rw[h.q.nd];simp⟩,h.q.th,h.q.nd,h.q.ss,h.q.aq,fun y d=>?_⟩,h.id,h.lt,h.N64,h.bk,apq (by omega) (by omega) h.kn (by omega),fun y d=>?_,fun p C=>?_⟩
 .rcases v7.1 d with rfl|d
  .omega
  .exact h.q.st y d
 .show y.aP=1/\gR (fS x.peer x.aP n.known) y.peer=1/\_
  rw[m]
  rcases v7.1 d with rfl|d
  .exact ⟨f,by rw[if_pos rfl,f],hp.1,hp.2.1,r,s⟩
  .have ⟨a,b,c⟩:=h.ep y d
   refine⟨a,?_,c⟩
   split
   .exact f
   .exact b
 .show gR (fS x.peer x.aP n.known) p=0
  have g:cJ (fR x n.dr.ai.af) p=false:=C
  rw[JB,aiX,decide_eq_false_iff_not]at g
  rw[m,if_neg g.1]
  exact h.kz p g.2
def apQ{m:Nd}{i N:Nat}{P:Int}{v:Wk}(h:Nq m i N)(z:(i:Int)<P/\P<N)(d:cJ m.dr.ai.af P=false):∃u:Nd,Nk u i N/\(∀p,j6 u.dr.ai.af p=if P=p then some (sF P 0)else j6 m.dr.ai.af p)/\u.known=fS P 1 m.known/\(cO m ⟨4,0,P,0,[]⟩).e=0/\(jt (cO m ⟨4,0,P,0,[]⟩) v->
  ((∃x∈u.dr.ai.af,x.fork=false)/\v.out=amX i u.dr.ai.af/\Nh v.n i N P/\v.n.known=u.known/\∀p,j6 v.n.dr.ai.af p=(j6 u.dr.ai.af p).map gH)\/
  ((∀x∈u.dr.ai.af,x.fork=true)/\v.out=[⟨i,P,⟨5,1,0⟩⟩]/\Ne v.n i N P/\v.n.known=u.known/\∀p,j6 v.n.dr.ai.af p=(j6 u.dr.ai.af p).map fun x=>{x with cK:=true})):=by
 have f:=h.ok
 have hid:=h.k.id
 have F:=h.k.N64
 have l:=h.k.kz P d
 have⟨w,a⟩:=eg ((bg m).oq (sF P 0))
 have hA:cO m ⟨4,0,P,0,[]⟩=w:=by
  unfold cO
  rw[if_neg (by simp),if_neg (by simp),if_neg (by simp),if_neg (by simp),if_pos rfl,if_pos f,if_neg,if_neg,if_pos,l,a]
  .simp only[l];decide
  .simp[d]
  .have o:P>m.dr.ai.id:=by omega
   have A:P<64:=by omega
   simp[o,A]
 have r:=fun ph (hp:0<=ph/\ph<=2)=>h.k.put (x:=sF P 0) (ph:=ph) (told:=m.told) hp d (by show 0<=P/\P<N/\P≠i;omega) rfl (by simp[sF]) (.inr ⟨rfl,z.1⟩) fun _=>rfl
 have s:Nk w.n i N:=by rw[<-a];exact r m.dr.ai.phase (by rw[h.ph];omega)
 have⟨u,b⟩:=eg (w.put (w.n.di ⟨⟨w.n.id,1,w.n.af⟩,w.n.dr.aQ,w.n.dr.need⟩))
 have t:Nk u.n i N:=by rw[<-b, <-a];exact r 1 (by omega)
 have g:u.n.dr.ai.af=fR (sF P 0) m.dr.ai.af:=by rw[<-b, <-a];rfl
 have B:∀p,j6 u.n.dr.ai.af p=if P=p then some (sF P 0)else j6 m.dr.ai.af p:=fun p=>by
  rw[g];exact aoN (x:=sF P 0) d
 have hm:∀x∈u.n.dr.ai.af,x=sF P 0\/Qs x:=fun x c=>by
  rw[g]at c
  exact(v7.1 c).imp id (h.sd x)
 have C:sF P 0∈u.n.dr.ai.af:=by rw[g];exact v7.2 (.inl rfl)
 have D:dG w=u:=by
  unfold dG
  rw[if_pos,b]
  refine⟨by rw[<-a];exact h.ph,akq.2 ⟨sF P 0,by rw[<-a];exact v7.2 (.inl rfl),?_⟩⟩
  have:w.n.told=[]:=by rw[<-a];exact h.tl
  simp[untold,r9,sF,this]
 refine⟨u.n,t,B,by rw[<-b, <-a];rfl,?_,fun y=>?_⟩
 .rw[hA, <-a];exact KK f
 .rw[hA]at y
  have j:w.out=[]/\w.seen=[]/\w.e=0:=by rw[<-a];exact⟨rfl,rfl,KK f⟩
  have:=anU (P:=P) y s.q (fun x c=>(s.ep x c).2.2.2.2.1) ⟨j.2.2,j.2.1⟩ D (by rw[<-b];exact⟨rfl,rfl,rfl⟩) t (by rw[<-b];rfl) (by rw[<-b, <-a];exact h.tl) (fun x c=>by
   rcases hm x c with rfl|E
   .exact ⟨by simp[sF],fun _=>rfl⟩
   .unfold Qs at E
    exact⟨by grind,fun o=>by omega⟩) ⟨_,C,rfl,rfl⟩ (.inl (by rw[<-a];exact h.ph)) (.inl (by rw[<-a];exact h.ph))
  rw[j.1]at this
  simpa only[aiD]using this
def apL{m:Nd}{i N:Nat}{P z:Int}{x:aI}{v:Wk}(h:Nh m i N P)(o:j6 m.dr.ai.af z=some x)(r:x.fork=false):∃u:Nd,(∀p,j6 u.dr.ai.af p=if p=z then some {x with fork:=true}else j6 m.dr.ai.af p)/\(fK m z ⟨1,1,0⟩).e=0/\(jt (fK m z ⟨1,1,0⟩) v->
  ((∃x∈u.dr.ai.af,x.fork=false)/\v.out=[]/\Nh v.n i N P/\v.n.known=m.known/\∀p,j6 v.n.dr.ai.af p=j6 u.dr.ai.af p)\/
  ((∀x∈u.dr.ai.af,x.fork=true)/\v.out=[⟨i,P,⟨5,1,0⟩⟩]/\Ne v.n i N P/\v.n.known=m.known/\∀p,j6 v.n.dr.ai.af p=(j6 u.dr.ai.af p).map fun x=>{x with cK:=true})):=by
 have⟨K,W⟩:=anh o
 have A:∀y∈m.dr.ai.af,y.aP=1:=fun y g=>(h.k.ep y g).1
 have L:=h.ok
 have X:=h.k.sd
 have⟨d,B⟩:=eg (⟨⟨m.dr.ai.id,m.dr.ai.phase,setAt (j8 z) (fun x=>{x with fork:=true}) m.dr.ai.af⟩,m.dr.aQ,m.dr.need⟩:Dr)
 have M:Bk m.dr z ⟨1,1,0⟩=(d,0):=by
  have O:jT m.dr.ai z ⟨1,1,0⟩=(⟨m.dr.ai.id,m.dr.ai.phase,setAt (j8 z) (fun x=>{x with fork:=true}) m.dr.ai.af⟩,0):=by
   unfold jT
   rw[if_neg (by simp[(ic.1 h.k.q.ok).1]),anT A,o]
   simp[r,aoL A]
  unfold Bk
  rw[if_neg (by simp[h.k.q.ok]),anT A,o,O]
  simp[<-B]
 have⟨w,j⟩:=eg (⟨m.di d,[],[],0⟩:Wk)
 have F:fK m z ⟨1,1,0⟩=w:=by
  unfold fK iU lr Wk.sC bg Wk.need
  have s:m.dr.ai.af.find? (j8 z)=some x:=o
  simp[L,s,A x K,M, <-j,Wk.put,Nd.di]
 have D:Nk w.n i N:=by
  rw[<-j]
  have:=h.k.bH (ph:=m.dr.ai.phase) (l:=setAt (j8 z) (fun x=>{x with fork:=true}) m.dr.ai.af) (told:=m.told) (by rw[h.ph];omega)
   (PK (f:=fun x=>{x with fork:=true}) (fun x _=>⟨rfl,fun Y G=>by
    simp only[cS,abR,afa,decide_eq_false_iff_not,decide_eq_true_eq]at G|-
    refine⟨G.1,?_⟩
    simp⟩) (jn.1 (ic.1 h.k.q.ok).1).2.2.2.2) (anD _) (fun y g=>aou g fun _=>⟨rfl,rfl,rfl,rfl,rfl⟩) (fun p=>zt (f:=fun x=>{x with fork:=true}) (fun _ _=>rfl) p _)
  unfold Nd.di
  rw[<-B]
  exact this
 have H:w.n.dr=d:=by rw[<-j];rfl
 have C:w.n.dr.ai.af=setAt (j8 z) (fun x=>{x with fork:=true}) m.dr.ai.af:=by rw[H, <-B]
 have Q:∀p,j6 w.n.dr.ai.af p=if p=z then some {x with fork:=true}else j6 m.dr.ai.af p:=fun p=>by
  rw[C,anS (f:=fun x=>{x with fork:=true}) (fun _=>rfl),o];rfl
 have I:w.n.dr.ai.phase=1:=by rw[H, <-B];exact h.ph
 have t:∀y∈w.n.dr.ai.af,y.token=false/\(y.state=1->y.peer=P):=fun y g=>by
  rw[C]at g
  rcases anX g with g|⟨R,S,_,rfl⟩
  .exact h.sd y g
  .exact h.sd R S
 have T:w.n.dr.ai.af.map gH=w.n.dr.ai.af:=apd fun x r=>by unfold gH;rw[(t x r).1];rfl
 refine⟨w.n,Q,by rw[F, <-j],fun J=>?_⟩
 rw[F]at J
 have U:∃y∈w.n.dr.ai.af,y.peer=P/\y.state=1:=by
  have⟨y,g,a,b⟩:=h.op
  rcases Io (p:=j8 z) (f:=fun x=>{x with fork:=true}) g with s|⟨_,s⟩
  .exact ⟨y,by rw[C];exact s,a,b⟩
  .exact ⟨{y with fork:=true},by rw[C];exact s,a,b⟩
 have E:w.out=[]/\w.seen=[]/\w.e=0:=by rw[<-j];exact⟨rfl,rfl,rfl⟩
 have V:w.n.known=m.known:=by rw[<-j];rfl
 have:=anU (P:=P) J D.q (fun x r=>(D.ep x r).2.2.2.2.1) ⟨E.2.2,E.2.1⟩ (anl (.inl (by rw[I];decide))) ⟨rfl,rfl,rfl⟩ D I (by rw[<-j];exact h.tl) (fun y g=>⟨by rw[(t y g).1];simp,(t y g).2⟩) U (.inr fun y g=>(t y g).1) (.inr rfl)
 rw[E.1,V,aoz fun y g=>(t y g).1]at this
 rcases this with⟨a,b,c,d,e⟩|h
 .refine .inl ⟨a,b,c,d,fun p=>?_⟩
  rw[e, <-anR (fun x=>(ann x).1),T]
 .exact .inr (by simpa only[aiD]using h)
def apW{m:Nd}{i N:Nat}{a:Int}{v:Wk}(h:Nq m i N)(C:0<=a/\a<i)(s:cJ m.dr.ai.af a=false):(fK m a ⟨5,1,0⟩).e=0/\(jt (fK m a ⟨5,1,0⟩) v->
  v.out=[⟨i,a,⟨6,1,0⟩⟩]/\Nq v.n i N/\v.n.known=fS a 1 m.known/\∀p,j6 v.n.dr.ai.af p=if a=p then some ⟨a,1,0,false,false,true,false,true⟩else j6 m.dr.ai.af p):=by
 have D:=h.ok
 have hid:=h.k.id
 have J:=h.k.lt
 have E:=h.k.kz a s
 have⟨w,o⟩:=eg (⟨{m with asked:=[⟨a,1⟩]},[],[],0⟩:Wk)
 have F:fK m a ⟨5,1,0⟩=w:=by
  have t:ju m ⟨a,1⟩=true:=by
   unfold ju
   have u:a<m.id:=by show a<m.dr.ai.id;omega
   simp[s,C.1,u,E]
  have u:kN [] (m.asked++[⟨a,1⟩])=true:=by rw[h.k.q.aq];rfl
  unfold fK iU lr bg
  simp only[D,if_true]
  rw[if_neg (by simp),t,u, <-o,h.k.q.aq]
  rfl
 rw[F]
 refine⟨by rw[<-o],fun G=>?_⟩
 obtain⟨x,d⟩:∃x:aI,x=⟨a,1,0,false,false,true,false,true⟩:=⟨_,rfl⟩
 have⟨f,g⟩:=eg (⟨⟨⟨⟨m.dr.ai.id,m.dr.ai.phase,fR x m.dr.ai.af⟩,m.dr.aQ,m.dr.need⟩,m.book,fS x.peer x.aP m.known,m.told,[]⟩,[⟨i,a,⟨6,1,0⟩⟩],[⟨6,i,0,a,[]⟩],0⟩:Wk)
 have j:Nk f.n i N:=by
  rw[<-g]
  have:=h.k.put (x:=x) (ph:=m.dr.ai.phase) (told:=m.told) (by rw[h.ph];omega) (by rw[d];exact s) (by rw[d];show 0<=a/\a<N/\a≠i;omega) (by rw[d]) (by rw[d];simp) (by rw[d];exact .inl rfl) (by rw[d];simp)
  rw[h.k.q.aq]at this
  exact this
 have hA:dA w=f:=by
  unfold dA
  rw[if_pos (by rw[<-o];show m.dr.ai.phase≠2;rw[h.ph];decide), <-o, <-g]
  simp only[Wk.answer,ai2,List.foldl_nil,Wk.iz,Wk.oq,Wk.send,Wk.ey,Wk.put,ft,Nd.id,Nd.af,Nd.phase,hid,d,aiD]
 have z:∀y∈f.n.dr.ai.af,Qs y:=fun y b=>by
  rw[<-g]at b
  rcases v7.1 b with rfl|b
  .rw[d];exact⟨rfl,.inr ⟨rfl,rfl,rfl⟩⟩
  .exact h.sd y b
 have r:f.n.dr.ai.phase=0:=by rw[<-g];exact h.ph
 have A:cq f.n.dr=(f.n.dr,[]):=still j.q.ok j.q.th j.q.nd (fun y b=>(j.ep y b).2.2.2.2.1) (anz j.q.th (by rw[r];decide)) (fun y b=>by rw[r];exact anB (z y b)) fun c=>by rw[r]at c;cases c
 have B:f.iw=f:=by
  rw[anC j.q (fun y b=>(j.ep y b).2.2.2.2.1) (anl (.inr fun y b=>by rw[(z y b).1];decide)) A A (by rw[r];decide),aeU]
  rfl
 have H:dA f=f:=by
  rw[<-g]
  unfold dA Wk.answer
  split<;>rfl
 have I:w.iw=f:=by
  have:w.iw=f.iw:=by
   show(iN (fe (fF (dG (dq (dA w)))))).lA=(iN (fe (fF (dG (dq (dA f)))))).lA
   rw[hA,H]
  rw[this,B]
 have:=anG G I B fun c=>by
  have t:f.n.asked=w.n.asked:=by rw[c]
  rw[<-g, <-o]at t
  cases t
 rw[this]
 refine⟨by rw[<-g],⟨j,r,by rw[<-g];exact h.tl,z⟩,by rw[<-g,d],fun p=>?_⟩
 have:=aoN (x:=x) (p:=p) (l:=m.dr.ai.af) (by rw[d];exact s)
 rw[<-g]
 show j6 (fR x m.dr.ai.af) p=_
 rw[this,d]
def apJ{m:Nd}{i N:Nat}{P:Int}{v:Wk}(h:Ne m i N P):(fK m P ⟨6,1,0⟩).e=0/\(jt (fK m P ⟨6,1,0⟩) v->
  v.out=[]/\Nq v.n i N/\v.n.known=m.known/\∀p,j6 v.n.dr.ai.af p=if p=P then(j6 m.dr.ai.af P).map fun x=>{x with state:=0}else j6 m.dr.ai.af p):=by
 have R:=h.ok
 have⟨x,D,S,T⟩:=h.op
 have U:=h.k.sd
 have E:j6 m.dr.ai.af P=some x:=by rw[<-S];exact anN U D
 have V:=(h.k.ep x D).1
 have⟨l,r⟩:=eg (setAt (j8 P) (fun x=>{x with state:=0}) m.dr.ai.af)
 have⟨w,j⟩:=eg (⟨⟨⟨⟨m.dr.ai.id,2,l⟩,m.dr.aQ,m.dr.need⟩,m.book,m.known,[],m.asked⟩,[],[⟨6,m.dr.ai.id,0,P,[]⟩],0⟩:Wk)
 have W:fK m P ⟨6,1,0⟩=w:=by
  have o:iV m.dr.ai.af P 1 1=true:=by
   unfold iV
   have:m.dr.ai.af.find? (j8 P)=some x:=E
   rw[this];simp[V,T]
  have X:gJ m.told [P]=[]:=by rw[h.tl];simp[gJ,cD,gv,kB,dt]
  unfold fK iU lr bg
  simp only[R,if_true]
  rw[if_neg (by simp),if_neg (by simp),o,if_pos (by simp[h.tl]), <-j]
  unfold rN
  rw[X,r,h.ph]
  rfl
 rw[W]
 refine⟨by rw[<-j],fun Y=>?_⟩
 have H:∀p,j6 l p=if p=P then some {x with state:=0}else j6 m.dr.ai.af p:=fun p=>by
  rw[<-r,anS (f:=fun x=>{x with state:=0}) (fun _=>rfl),E];rfl
 have L:dU m.dr.ai.id (-1) l=true:=by
  rw[<-r]
  exact PK (f:=fun x=>{x with state:=0}) (fun x _=>⟨rfl,fun aj r=>by
    simp only[cS,abR,afa,decide_eq_false_iff_not,decide_eq_true_eq]at r|-
    refine⟨⟨⟨r.1.1.1,by omega⟩,by omega⟩,r.2⟩⟩) (jn.1 (ic.1 h.k.q.ok).1).2.2.2.2
 have Z:l.Pairwise fun x y=>x.peer<y.peer:=(zR L).1
 have M:∀y∈l, ∃z∈m.dr.ai.af,y.peer=z.peer/\y.aP=z.aP/\y.state=0/\y.dc=z.dc/\y.ask=z.ask/\y.fork=true/\y.cK=true/\y.token=false:=fun y e=>by
  have o:=anN Z e
  rw[H]at o
  split at o
  .cases o
   have⟨a,b,c,d⟩:=h.sd x D
   exact⟨x,D,rfl,rfl,rfl,rfl,rfl,a,b,c⟩
  .rename_i aa
   have I:=(anh o).1
   have⟨a,b,c,d⟩:=h.sd y I
   have⟨_,_,_,_,_,f⟩:=h.k.ep y I
   refine⟨y,I,rfl,rfl,?_,rfl,rfl,a,b,c⟩
   rcases f with f|f
   .exact f
   .exact absurd (d f.1) aa
 have O:∀F,0<=F/\F<=2->Nk ⟨⟨⟨m.dr.ai.id,F,l⟩,m.dr.aQ,m.dr.need⟩,m.book,m.known,[],m.asked⟩ i N:=fun F hp=>
  h.k.apm hp L (by rw[<-r];exact anD _) (fun y e=>by have⟨z,a,b,c,d,ab,f,_⟩:=M y e;exact⟨z,a,b,c,.inr d,ab,f⟩) fun p=>by
   rw[am3,am3,H]
   split
   .rename_i c;rw[c,E];rfl
   .rfl
 have hid:=h.k.id
 have hth:=h.k.q.th
 have ad:=h.k.q.nd
 have s:Nk w.n i N:=by rw[<-j];exact O 2 (by omega)
 have⟨d1,A⟩:=eg (⟨⟨m.dr.ai.id,0,l⟩,m.dr.aQ,m.dr.need⟩:Dr)
 have⟨f,t⟩:=eg (⟨⟨d1,m.book,m.known,[],m.asked⟩,[],[⟨6,m.dr.ai.id,0,P,[]⟩],0⟩:Wk)
 have u:Nk f.n i N:=by rw[<-t, <-A];exact O 0 (by omega)
 have B:∀y∈l,Qs y:=fun y e=>by
  have⟨z,_,_,_,a,_,_,b,c,d⟩:=M y e
  exact⟨a,.inl ⟨b,c,d⟩⟩
 have G:f.n.dr.ai.af=l:=by rw[<-t, <-A]
 have C:f.n.dr.ai.phase=0:=by rw[<-t, <-A]
 have J:f.n.dr=d1:=by rw[<-t]
 have K:cq d1=(d1,[]):=by
  rw[<-J]
  exact still u.q.ok u.q.th u.q.nd (fun y e=>(u.ep y e).2.2.2.2.1) (anz u.q.th (by rw[C];decide)) (fun y e=>by rw[C];exact anB (B y (by rw[<-G];exact e))) fun c=>by rw[C]at c;cases c
 have Q:w.n.dr.ai.af=l:=by rw[<-j]
 have ae:l.any r9=false:=aja.2 fun y e=>by
  have:=(B y e).1
  simp[r9,this]
 have e1:cq w.n.dr=(d1,[]):=by
  have hp:eG w.n.dr=0:=by
   unfold eG
   rw[if_neg (by rw[s.q.th];simp),if_pos ⟨by rw[<-j],by rw[s.q.th];decide,by rw[Q];exact ae⟩]
  have⟨a,b⟩:=aol (g:=cI w.n.dr.ai.id 0) (l:=l) fun y e=>anB (B y e)
  rw[an9 s.q.ok s.q.th s.q.nd (fun y e=>(s.ep y e).2.2.2.2.1),hp,Q]
  unfold amV
  rw[if_neg (by simp),a,b, <-A, <-j,hth,ad]
 have ag:w.iw=f:=by
  rw[anC s.q (fun y e=>(s.ep y e).2.2.2.2.1) (anl (.inl (by rw[<-j];show(2:Int)≠0;decide))) e1 K (by rw[<-A];show(0:Int)≠2;decide), <-t, <-j]
  rfl
 have ah:f.iw=f:=by
  rw[anC u.q (fun y e=>(u.ep y e).2.2.2.2.1) (anl (.inr fun y e=>by rw[(B y (by rw[<-G];exact e)).1];decide)) (by rw[J];exact K) K (by rw[<-A];show(0:Int)≠2;decide),aeU, <-J]
  rfl
 have:=anG Y ag ah fun c=>by
  have o:f.n.dr.ai.phase=w.n.dr.ai.phase:=by rw[c]
  rw[C, <-j]at o
  cases o
 rw[this]
 exact⟨by rw[<-t],⟨u,C,by rw[<-t],fun y e=>B y (by rw[<-G];exact e)⟩,by rw[<-t],fun p=>by rw[G,H,E];rfl⟩
def aqf{y b:Nat}(c:b<256)(d:y*256+b<18446744073709551616):QU ((y*256:Nat):Int) (b:Int)=((y*256+b:Nat):Int):=by
 have a:(aji 64 ((y*256:Nat):Int)|||aji 64 (b:Int)).toNat=y*256+b:=by rw[BitVec.ofInt_natCast,BitVec.ofInt_natCast,BitVec.toNat_or,BitVec.toNat_ofNat,BitVec.toNat_ofNat,amh (by omega),amh (by omega)];have:=Nat.shiftLeft_add_eq_or_of_lt (i:=8) (b:=b) (by omega) y;rw[Nat.shiftLeft_eq]at this;exact this.symm
 show aiY.wrap (((aji 64 _|||aji 64 _).toNat:Nat):Int)=_;rw[a];simp[am0,amZ,amU];omega
def aqr{y:Nat}{b:UInt8}(d:y*256+256<=18446744073709551616):xi (y:Int) b=((y*256+b.toNat:Nat):Int):=by
 have e:=b.toNat_lt;unfold xi;have a:aiY.wrap ((y:Int)*2 ^ 8)=((y*256:Nat):Int):=by simp[am0,amZ,amU];omega
 have c:aiY.wrap ((b.toNat:Nat):Int)=(b.toNat:Int):=by simp[am0,amZ,amU];omega
 rw[a,c];exact aqf (by omega) (by omega)
def ao0(x:Nat):∀(n y:Nat),n<=8->y*256 ^ n+256 ^ n<=18446744073709551616->(iB (x:Int) n).foldl xi (y:Int)=((y*256 ^ n+x % 256 ^ n:Nat):Int)
 |0,y,_,_=>by simp[iB,Nat.mod_one]
 |n+1,y,hn,h=>by
  have hp:256 ^ (n+1)=256*256 ^ n:=by rw[Nat.pow_succ,Nat.mul_comm]
  have a:0<256 ^ n:=Nat.pos_of_ne_zero (by simp)
  have d:((jx ((x:Int).fdiv (2 ^ (min (8*n) 64)))).toNat:Int)=((x / 256 ^ n % 256:Nat):Int):=by
   rw[anQ,aj1 (by omega),am1 _ (by exact Int.le_of_lt (Int.pow_pos (by decide)))]
   have:(2:Int) ^ (8*n)=((256 ^ n:Nat):Int):=by
    rw[Int.pow_mul];norm_cast
   rw[this];norm_cast
  have b:(jx ((x:Int).fdiv (2 ^ (min (8*n) 64)))).toNat=x / 256 ^ n % 256:=by omega
  have c:y*256+256<=18446744073709551616:=by
   refine ai5 ?_ h
   rw[hp]
   have:1<=256 ^ n:=a
   calc y*256+256=(y*256+256)*1:=by omega
    _<=(y*256+256)*256 ^ n:=Nat.mul_le_mul_left _ this
    _=y*(256*256 ^ n)+256*256 ^ n:=by rw[air,Nat.mul_assoc]
  unfold iB
  rw[ai2,aqr c,b]
  have:=ao0 x n (y*256+x / 256 ^ n % 256) (by omega) (by
   rw[hp]at h
   have e:x / 256 ^ n % 256<=255:=by omega
   calc (y*256+x / 256 ^ n % 256)*256 ^ n+256 ^ n<=(y*256+255)*256 ^ n+256 ^ n:=am9 (aiN _ (by omega)) _
    _=y*(256*256 ^ n)+256*256 ^ n:=by rw[air,Nat.mul_assoc];omega
    _<=_:=h)
  rw[this]
  congr 1
  rw[hp,air,Nat.mul_assoc]
  have f:x % (256*256 ^ n)=x / 256 ^ n % 256*256 ^ n+x % 256 ^ n:=by
   rw[Nat.mul_comm 256,Nat.mod_mul,Nat.mul_comm (x / 256 ^ n % 256)]
   omega
  omega
def an8{l a s:List UInt8}{x n:Nat}(hn:n<=8)(d:x<256 ^ n){b:Nat}(e:a.length=b)(f:l=a++(iB (x:Int) n++s)):nQ l b n=(x:Int):=by
 have g:(l.take (b+n)).drop b=iB (x:Int) n:=by rw[f, <-e,List.take_append,acu (by omega),ans,show a.length+n-a.length=n by omega,akb (by rw[nZ];omega),acu (by rw[nZ];omega)];rfl
 have hp:256 ^ n<=256 ^ 8:=Nat.pow_le_pow_right (by decide) hn;have h:(256:Nat) ^ 8=18446744073709551616:=by decide
 have c:=ao0 x n 0 hn (by omega);unfold nQ;rw[g];rw[amh d]at c;simpa using c
def an7{f:Fm}(i:ni f=true)(v:0<=f.seq/\f.seq<18446744073709551616)(w:0<=f.qD/\f.qD<18446744073709551616):(jW f).2=0/\jV (jW f).1= .ok f:=by
 have y:jW f=(vg f++qH (ru (vg f)),0):=by unfold jW;rw[if_neg (by simp[i])]
 rw[y];refine⟨rfl,?_⟩;have⟨k,l,sq,m,b⟩:=f;have o:=i;simp only[ni,abR,ai9,decide_eq_true_eq]at o;have⟨⟨⟨⟨J,K⟩,M⟩,N⟩,O⟩:=o;simp only at v w;obtain⟨s,rfl⟩:∃s:Nat,sq=s:=⟨sq.toNat,by omega⟩;obtain⟨a,rfl⟩:∃a:Nat,m=a:=⟨m.toNat,by omega⟩;obtain⟨L,rfl⟩:∃L:Nat,l=L:=⟨l.toNat,by omega⟩;have z:aiY.wrap (L:Int)=(L:Int):=by simp[am0,amZ,amU];omega
 have p:aiY.wrap (b.length:Int)=(b.length:Int):=by simp[am0,amZ,amU];omega
 have⟨c,j⟩:=eg (qH (ru (vg ⟨k,L,s,a,b⟩)));have g:c.length=4:=by rw[<-j];rfl
 have e:vg ⟨k,L,s,a,b⟩=[78,1,jx k]++iB (L:Int) 2++iB (s:Int) 8++iB (a:Int) 8++iB (b.length:Int) 2++b:=by unfold vg;rw[z,p]
 have⟨B,d⟩:=eg (vg ⟨k,L,s,a,b⟩);have q:B.length=23+b.length:=by rw[<-d,e];simp[nZ];omega
 have A:xy (B++c)=some B:=by
  unfold xy;rw[if_neg (by simp[g])];have:(B++c).length-4=B.length:=by simp[g]
  rw[this,ai8,ans]
  .rw[<-j,d];simp
  .rfl
  .rfl
 have t:(256:Nat) ^ 2=65536:=by decide
 have p8:(256:Nat) ^ 8=18446744073709551616:=by decide
 have C:nQ (B++c) 3 2=(L:Int):=an8 (x:=L) (n:=2) (a:=[78,1,jx k]) (s:=iB (s:Int) 8++iB (a:Int) 8++iB (b.length:Int) 2++b++c) (by decide) (by rw[t];omega) rfl (by rw[<-d,e];simp[aiu]);have D:nQ (B++c) 5 8=(s:Int):=an8 (x:=s) (n:=8) (a:=[78,1,jx k]++iB (L:Int) 2) (s:=iB (a:Int) 8++iB (b.length:Int) 2++b++c) (by decide) (by rw[p8];omega) (by simp[nZ]) (by rw[<-d,e];simp[aiu]);have E:nQ (B++c) 13 8=(a:Int):=an8 (x:=a) (n:=8) (a:=[78,1,jx k]++iB (L:Int) 2++iB (s:Int) 8) (s:=iB (b.length:Int) 2++b++c) (by decide) (by rw[p8];omega) (by simp[nZ]) (by rw[<-d,e];simp[aiu]);have F:nQ (B++c) 21 2=(b.length:Int):=an8 (x:=b.length) (n:=2) (a:=[78,1,jx k]++iB (L:Int) 2++iB (s:Int) 8++iB (a:Int) 8) (s:=b++c) (by decide) (by rw[t];omega) (by simp[nZ]) (by rw[<-d,e];simp[aiu]);have G:B.drop 23=b:=by rw[<-d,e];rw[List.drop_append];simp[nZ]
 have u:∃r,B++c=78::1::jx k::r:=⟨_,by rw[<-d,e];rfl⟩;have H:(((jx k).toNat:Nat):Int)=k:=by rw[anQ];omega
 have I:uJ (B++c) B=⟨k,L,s,a,b⟩:=by
  unfold uJ;rw[C,D,E,G];have⟨r,h⟩:=u;rw[h];have:adW.wrap (L:Int)=(L:Int):=by simp[am0,amZ,amU];omega
  rw[this];show Fm.mk (((jx k).toNat:Nat):Int) _ _ _ _=_;rw[H]
 rw[j,d];unfold jV;simp only;rw[A,if_neg (by simp[q,g])];have⟨r,h⟩:=u;rw[if_neg (by rw[h];simp),if_neg (by rw[h];simp),if_neg]
 .simp only[I,i,if_true]
 .rw[F];have:((B++c).length:Int)-23-4=(b.length:Int):=by simp[q,g];omega
  rw[this,p];simp
def ano{n:Nat}(h:n<18446744073709551616):aiY.wrap (n:Int)=n:=by simp[am0,amZ,amU];omega
def Vm(m:cY):Prop:=1<=m.kind/\m.kind<=8/\m.aP=1/\m.num=0
theorem Vm.put{m:cY}(h:Vm m):(jv m).2=0/\(jv m).1.length=3/\ln (jv m).1=(m,0):=by
 have⟨k,e,n⟩:=m;have⟨c,d,f,g⟩:=h;simp only at c d f g;subst f g;have a:CG k=3:=by unfold CG;rw[if_neg (by omega),if_pos ⟨c,d⟩]
 have hp:jv ⟨k,1,0⟩=([jx k,Fi 1,jx 1],0):=by unfold jv;rw[if_neg (by simp[vU,a])];simp only[a];rfl
 have b:ln ([jx k,Fi 1,jx 1])=(EQ [jx k,Fi 1,jx 1],0):=by
  unfold ln;have:(((jx k).toNat:Nat):Int)=k:=by rw[anQ];omega
  rw[if_neg];simp[this,a]
 rw[hp];refine⟨rfl,rfl,?_⟩;rw[b];have:=aqJ ⟨k,1,0⟩ (by rw[hp,b]);rw[hp,b]at this;rw[<-this]
structure GJ(e e':Lk)(left:List cY)(ts:Nat)(q q':List bx)(S C:Nat):Prop where
 lk:e.link=1
 wn:1<=e.win
 rm:1<=e.room
 one:left.length<=1
 le:ts<=left.length
 vm:∀m∈left,Vm m
 du:0<S->e'.due=true\/q'≠ []
 ql:e.queue.length=S+ts
 un:e.queue.drop S=(left.take ts).map fun m=>(jv m).1
 nx:∃B F:Nat,e.base=B/\e.bN=((S+F:Nat):Int)/\e.sv=((S+F:Nat):Int)/\e'.next=((B+S:Nat):Int)/\B+S+left.length<=C/\F<=ts/\
  (q=[]/\F=0\/q=[(jW ⟨1,1,((B+S:Nat):Int),e.next,e.queue.getD S []⟩).1]/\F=1\/q=[(jW ⟨2,1,0,e.next,[]⟩).1]/\F=0)
def ap5{e o:Lk}{left:List cY}{b S C:Nat}{p:List bx}(h:GJ e o left b [] p S C)(t:C<1000000000):
  (b=1/\(S:Int)<e.win/\iK e=({e with bN:=((S+1:Nat):Int),sv:=((S+1:Nat):Int),due:=false},[⟨1,1,e.base+S,e.next,e.queue.getD S []⟩]))\/
  ((b=0\/e.win<=S)/\iK e=({e with due:=false},if e.due=true then [⟨2,1,0,e.next,[]⟩]else [])):=by
 have⟨B,F,q,d,j,u,v,w,r⟩:=h.nx
 have a:F=0:=by
  rcases r with⟨_,h⟩|⟨h,_⟩|⟨h,_⟩
  .exact h
  .cases h
  .cases h
 subst a
 have x:=h.one
 have y:=h.le
 have k:=h.ql
 have l:=h.lk
 have m:e.bN.toNat=S:=by rw[d];omega
 by_cases c:b=1/\(S:Int)<e.win
 .have ⟨c1,c2⟩:=c
  refine .inl ⟨c1,c2,?_⟩
  have f:pX e=S+1:=by unfold pX;rw[k,c1];omega
  have g:jA e=((S+1:Nat):Int):=by unfold jA;rw[f,d];omega
  have s:qi e S=⟨1,1,e.base+S,e.next,e.queue.getD S []⟩:=by
   unfold qi nG
   rw[l,q,ano (n:=S) (by omega), <-ad0,ano (by omega)]
  have a:tI e=[⟨1,1,e.base+S,e.next,e.queue.getD S []⟩]:=by
   unfold tI
   rw[f,m,show S+1-S=1 by omega, <-s]
   rfl
  have i:max e.sv ((S+1:Nat):Int)=((S+1:Nat):Int):=by rw[j];omega
  unfold iK
  simp only[a,g,i]
  simp
 .refine .inr ⟨by omega,?_⟩
  have f:pX e<=S:=by unfold pX;rw[k];omega
  have g:jA e=e.bN:=by unfold jA;rw[d];omega
  have a:tI e=[]:=by
   unfold tI
   rw[m,show pX e-S=0 by omega]
   rfl
  have i:max e.sv e.bN=e.sv:=by rw[j,d];omega
  unfold iK
  simp only[a,g,i]
  unfold nG
  rw[l]
  simp
def aoT{e b:Lk}{m:List cY}{n a g:Nat}{q:List bx}(h:GJ b e m n [] q a g)(C:g<1000000000){f:Fm}(r:f.qD=e.next):∃x:Lk,qm b f=x/\x.next=b.next/\x.due=b.due/\x.link=b.link/\(∀d i,GJ {x with due:=d,next:=i} e m n [] [] 0 g):=by
 have⟨B,F,j,o,k,l,s,t,u⟩:=h.nx
 have v:F=0:=by
  rcases u with⟨_,h⟩|⟨h,_⟩|⟨h,_⟩
  .exact h
  .cases h
  .cases h
 subst v;have D:=h.one;have E:=h.le;have w:=h.ql;have p:AD b f=(a:Int):=by unfold AD;rw[r,l,j,show((B+a:Nat):Int)-(B:Int)=(a:Int)by omega,ano (by omega)]
 have y:aiY.wrap b.sv=(a:Int):=by rw[k,ano (by omega)];omega
 have z:(adW.wrap (a:Int)).toNat=a:=by
  have:adW.wrap (a:Int)=a:=by simp[am0,amZ,amU];omega
  rw[this];omega
 by_cases c:0<a
 .refine ⟨mX b a,?_,rfl,rfl,rfl,fun d i=>?_⟩
  .unfold qm;rw[p,y,if_pos ⟨by omega,aka _⟩,z]
  .refine ⟨h.lk,h.wn,h.rm,h.one,h.le,h.vm,fun h=>absurd h (by omega),?_,?_,B+a,0,?_,?_,?_,?_,?_,by omega,.inl ⟨rfl,rfl⟩⟩
   .show (b.queue.drop a).length=_;rw[aj0,w];omega
   .exact h.un
   .show aiY.wrap (b.base+aiY.wrap (a:Int))=_;rw[j,ano (by omega), <-ad0,ano (by omega)]
   .show max (b.bN-(a:Int)) 0=_;rw[o];omega
   .show b.sv-(a:Int)=_;rw[k];omega
   .rw[l];rfl
   .omega
 .have A:a=0:=by omega
  subst A;refine⟨b,?_,rfl,rfl,rfl,fun d i=>?_⟩
  .unfold qm;rw[p,if_neg (by simp)]
  .exact ⟨h.lk,h.wn,h.rm,h.one,h.le,h.vm,fun h=>absurd h (by omega),h.ql,h.un,B,0,j,o,k,l,s,t,.inl ⟨rfl,rfl⟩⟩
def aqh{e a:Lk}{left k:List cY}{i l S K C j:Nat}{q n:List bx}(h:GJ e a left i q n S C)(o:GJ a e k l n q K j)(L:n=[]){s:bx}(M:q=[s])(V:C<1000000000)(v:j<1000000000)(w:a.link=1):
  ∃f:Fm,(lF (jV s))=(f,0)/\((∃m,left=[m]/\i=1/\(iY a f).2=some (jv m).1/\GJ e (iY a f).1 [] 0 [] [] (S+1) C/\GJ (iY a f).1 e k l [] [] 0 j)\/
   ((iY a f).2=none/\(lF (jV s)).1.kind=2/\GJ e (iY a f).1 left i [] [] S C/\GJ (iY a f).1 e k l [] [] 0 j)):=by
 subst L
 have⟨B,F,y,z,A,p,N,W,D⟩:=h.nx
 have⟨X,Y,c1,c2,c3,c4,c5,Z,c7⟩:=o.nx
 have E:0<=e.next/\e.next<18446744073709551616:=by rw[c4];omega
 have O:=h.ql
 have h1:=h.one
 have h2:=h.le
 rw[M]at D
 rcases D with⟨h,_⟩|⟨b,c⟩|⟨b,c⟩
 .cases h
 .have G:i=1:=by omega
  have P:left.length=1:=by omega
  obtain⟨m,hm⟩:∃m,left=[m]:=by
   match left,P with
   |[m],_=>exact⟨m,rfl⟩
  have Q:=h.vm m (by rw[hm];simp)
  have⟨v1,R,v3⟩:=Q.put
  have T:e.queue.getD S []=(jv m).1:=by
   have H:=h.un
   rw[hm,G]at H
   have:e.queue[S]?=(e.queue.drop S)[0]?:=by rw[ai3];rfl
   rw[ae5,this,H];rfl
  simp only[aiA,and_true]at b
  rw[T]at b
  have d:ni ⟨1,1,((B+S:Nat):Int),e.next,(jv m).1⟩=true:=by simp[ni,R]
  have⟨_,g⟩:=an7 d (by show 0<=((B+S:Nat):Int)/\((B+S:Nat):Int)<_;omega) E
  refine⟨⟨1,1,((B+S:Nat):Int),e.next,(jv m).1⟩,by rw[b,g];rfl,.inl ⟨m,hm,G,?_⟩⟩
  have⟨x,r,I,J,U,t⟩:=aoT o v (f:=⟨1,1,((B+S:Nat):Int),e.next,(jv m).1⟩) rfl
  have u:iY a ⟨1,1,((B+S:Nat):Int),e.next,(jv m).1⟩=({x with due:=true,next:=((B+S+1:Nat):Int)},some (jv m).1):=by
   unfold iY
   rw[if_neg (by rw[d,w];simp),if_neg (by simp),if_neg (by rw[p];simp),r,p]
   have:aiY.wrap (((B+S:Nat):Int)+1)=((B+S+1:Nat):Int):=by
    rw[show((B+S:Nat):Int)+1=((B+S+1:Nat):Int)by omega,ano (by omega)]
   rw[this]
  rw[u]
  refine⟨rfl,⟨h.lk,h.wn,h.rm,by simp,by simp,by simp,fun _=> .inl rfl,by rw[O];omega,?_,B,0,y,by rw[z,c],by rw[A,c],?_,by simp;omega,by omega,.inl ⟨rfl,rfl⟩⟩,t _ _⟩
  .rw[ajD (by omega)];rfl
  .show ((B+S+1:Nat):Int)=_
   omega
 .simp only[aiA,and_true]at b
  have d:ni ⟨2,1,0,e.next,[]⟩=true:=by simp[ni]
  have⟨_,g⟩:=an7 d (by simp) E
  refine⟨⟨2,1,0,e.next,[]⟩,by rw[b,g];rfl,.inr ?_⟩
  have⟨x,r,I,J,U,t⟩:=aoT o v (f:=⟨2,1,0,e.next,[]⟩) rfl
  have u:iY a ⟨2,1,0,e.next,[]⟩=(x,none):=by
   unfold iY
   rw[if_neg (by rw[d,w];simp),if_pos (by simp),r]
  rw[u]
  refine⟨rfl,by rw[b,g];rfl,⟨h.lk,h.wn,h.rm,h.one,h.le,h.vm,fun b=>?_,h.ql,h.un,B,0,y,by rw[z,c],by rw[A,c],by rw[I];exact p,N,by omega,.inl ⟨rfl,rfl⟩⟩,?_⟩
  .rcases h.du b with h|h
   .exact .inl (J.trans h)
   .exact absurd rfl h
  .have:=t x.due x.next
   exact this
section
def En(K:Cl)(a b:Nat):Lk:=(K.pipe a b).e (cT a b)
def Qn(K:Cl)(a b:Nat):List bx:=(K.pipe a b).q (cT a b)
def anq{a b:Nat}(h:a≠b):cT b a=!cT a b:=by simp only[cT, <-decide_not,decide_eq_decide];omega
def anj(K:Cl)(a b:Nat):K.pipe b a=K.pipe a b:=by unfold Cl.pipe;rw[al6,Nat.max_comm]
def anb(K:Cl){a b x y:Nat}(h:a≠b)(c:x≠y)(P:Pp):En (K.eR a b P) x y=(if x=a/\y=b then P.e (cT a b)else if x=b/\y=a then P.e (!cT a b)else En K x y)/\Qn (K.eR a b P) x y=(if x=a/\y=b then P.q (cT a b)else if x=b/\y=a then P.q (!cT a b)else Qn K x y):=by
 have e:(K.eR a b P).pipe x y=if min x y=min a b/\max x y=max a b then P else K.pipe x y:=rfl;unfold En Qn;rw[e];by_cases c1:x=a/\y=b
 .obtain ⟨rfl,rfl⟩:=c1;simp
 .by_cases c2:x=b/\y=a
  .obtain ⟨rfl,rfl⟩:=c2;rw[if_pos ⟨al6 _ _,Nat.max_comm _ _⟩,if_neg c1,if_neg c1,if_pos ⟨rfl,rfl⟩,if_pos ⟨rfl,rfl⟩,anq (a:=y) (b:=x) (fun h=>c h.symm)];exact⟨rfl,rfl⟩
  .rw[if_neg c1,if_neg c1,if_neg c2,if_neg c2,if_neg (by omega)];exact⟨rfl,rfl⟩
def aod(K:Cl)(a b x y:Nat)(t:Tr):(K.mO a b t).tr x y=if x=a/\y=b then t else K.tr x y:=rfl
structure ER(K:Cl)(n:Nat)(s:Nat->Nat->Nat)(C:Nat->Nat->Nat):Prop where
 rm:∀a b,8<=(K.pipe a b).room
 d:∀a b,a<n->b<n->a≠b->GJ (En K a b) (En K b a) (K.tr a b).left (K.tr a b).bN (Qn K a b) (Qn K b a) (s a b) (C a b)
section
variable{K K':Cl}{n:Nat}{s C:Nat->Nat->Nat}
def apG(h:ER K n s C){a b:Nat}(Z:a<n)(hb:b<n)(k:a≠b)(M:Qn K a b=[]):ER (K.oV a b) n s C/\(∀x y,((K.oV a b).tr x y).left=(K.tr x y).left)/\(∀x y,x≠y->Qn (K.oV a b) x y=Qn K x y)/\((K.tr a b).left≠ []->s a b=0->((K.oV a b).tr a b).bN=1)/\(∀x y,x≠a\/y≠b->((K.oV a b).tr x y).bN=(K.tr x y).bN)/\(∀x y,x≠y->(En (K.oV a b) x y).due=(En K x y).due/\(En (K.oV a b) x y).next=(En K x y).next):=by
 have e:=h.d a b Z hb k;have⟨r,g⟩:=eg (sendAll (cT a b) ((K.tr a b).left.drop (K.tr a b).bN) (K.pipe a b));have t:K.oV a b=(K.eR a b r.1).mO a b ⟨(K.tr a b).left,(K.tr a b).bN+r.2⟩:=by unfold Cl.oV;rw[g]
 have N:∀x y,En (K.oV a b) x y=En (K.eR a b r.1) x y:=fun x y=>by rw[t];rfl
 have aa:∀x y,Qn (K.oV a b) x y=Qn (K.eR a b r.1) x y:=fun x y=>by rw[t];rfl
 have w:∀x y,(K.oV a b).tr x y=if x=a/\y=b then⟨(K.tr a b).left,(K.tr a b).bN+r.2⟩else K.tr x y:=fun x y=>by rw[t];rfl
 have ab:r.1.q=(K.pipe a b).q/\r.1.room=(K.pipe a b).room/\r.1.e (!cT a b)=(K.pipe a b).e (!cT a b)/\
   ((r.2=0/\r.1.e (cT a b)=En K a b/\((K.tr a b).left≠ []->s a b=0->(K.tr a b).bN=1))\/∃m,(K.tr a b).left=[m]/\(K.tr a b).bN=0/\r.2=1/\r.1.e (cT a b)={En K a b with queue:=(En K a b).queue++[(jv m).1]}):=by
  have h1:=e.one
  have O:=e.le
  match j:(K.tr a b).left,P:(K.tr a b).bN,h1,O with
  |[],ai,_,O=>
   rw[j,List.drop_nil]at g
   rw[<-g]
   exact⟨rfl,rfl,rfl,.inl ⟨rfl,rfl,fun h=>absurd rfl h⟩⟩
  |[m],1,_,_=>
   rw[j,P]at g
   rw[<-g]
   exact⟨rfl,rfl,rfl,.inl ⟨rfl,rfl,fun _ _=>rfl⟩⟩
  |[m],0,_,_=>
   rw[j,P,akn]at g
   have⟨v1,Q,v3⟩:=(e.vm m (by rw[j];simp)).put
   by_cases c:((En K a b).queue.length:Int)>= (En K a b).room
   .have l:(K.pipe a b).send (cT a b) (jv m).1=((K.pipe a b).jO (cT a b) (En K a b),91):=by
     have:nC (En K a b) (jv m).1=(En K a b,91):=by
      unfold nC
      rw[if_neg (by rw[Q];decide),if_pos c]
     show((K.pipe a b).jO (cT a b) (nC (En K a b) _).1,(nC (En K a b) _).2)=_
     rw[this]
    have ad:(K.pipe a b).jO (cT a b) (En K a b)=K.pipe a b:=by
     unfold Pp.jO En;rw[FZ]
    unfold sendAll at g
    rw[l,if_neg (by show ¬(91:Int)=0;decide)]at g
    rw[<-g,ad]
    refine⟨rfl,rfl,rfl,.inl ⟨rfl,rfl,fun _ h0=>?_⟩⟩
    have:=e.ql
    have:=e.rm
    omega
   .have l:(K.pipe a b).send (cT a b) (jv m).1=((K.pipe a b).jO (cT a b) {En K a b with queue:=(En K a b).queue++[(jv m).1]},0):=by
     have:nC (En K a b) (jv m).1=({En K a b with queue:=(En K a b).queue++[(jv m).1]},0):=by
      unfold nC
      rw[if_neg (by rw[Q];decide),if_neg c]
     show((K.pipe a b).jO (cT a b) (nC (En K a b) _).1,(nC (En K a b) _).2)=_
     rw[this]
    unfold sendAll at g
    rw[l,if_pos rfl]at g
    rw[<-g]
    refine⟨rfl,rfl,?_,.inr ⟨m,rfl,rfl,rfl,?_⟩⟩
    .exact qn _ _ (by simp)
    .exact pO _ _ _
 have⟨q1,q2,q3,o⟩:=ab
 have z:∀x y,x≠y->Qn (K.oV a b) x y=Qn K x y:=fun x y f=>by
  rw[aa,(anb K k f r.1).2,q1];split
  .rename_i c;rw[c.1,c.2];rfl
  .split
   .rename_i c;rw[c.1,c.2];unfold Qn;rw[anj K a b,anq k]
   .rfl
 have R:∀x y,((K.oV a b).tr x y).left=(K.tr x y).left:=fun x y=>by
  rw[w];split
  .rename_i c;rw[c.1,c.2]
  .rfl
 have u:∀x y,x≠y-> ¬(x=a/\y=b)->En (K.oV a b) x y=En K x y:=fun x y f c=>by
  rw[N,(anb K k f r.1).1,if_neg c];split
  .rename_i c;rw[c.1,c.2,q3];unfold En;rw[anj K a b,anq k]
  .rfl
 have S:En (K.oV a b) a b=r.1.e (cT a b):=by rw[N,(anb K k k r.1).1,if_pos ⟨rfl,rfl⟩]
 have ae:(K.oV a b).tr a b=⟨(K.tr a b).left,(K.tr a b).bN+r.2⟩:=by rw[w,if_pos ⟨rfl,rfl⟩]
 have af:∀x y,8<=((K.oV a b).pipe x y).room:=fun x y=>by
  have ag:((K.oV a b).pipe x y)=if min x y=min a b/\max x y=max a b then r.1 else K.pipe x y:=by rw[t];rfl
  rw[ag];split
  .rw[q2];exact h.rm a b
  .exact h.rm x y
 have T:∀x y,x≠a\/y≠b->((K.oV a b).tr x y).bN=(K.tr x y).bN:=fun x y c=>by rw[w,if_neg (by omega)]
 have A:(En (K.oV a b) a b).due=(En K a b).due/\(En (K.oV a b) a b).next=(En K a b).next:=by rw[S];rcases o with⟨_,o,_⟩|⟨m,_,_,_,o⟩<;>rw[o]<;>exact⟨rfl,rfl⟩
 have U:GJ (En (K.oV a b) a b) (En K b a) (K.tr a b).left ((K.oV a b).tr a b).bN [] (Qn K b a) (s a b) (C a b)/\((K.tr a b).left≠ []->s a b=0->((K.oV a b).tr a b).bN=1):=by
  rw[S,ae];rw[M]at e;rcases o with⟨v,p,D⟩|⟨m,v,p,D,e4⟩
  .rw[p,v,aiB];exact⟨e,D⟩
  .rw[e4,D,p];have j:=e.ql;rw[p]at j;have⟨B,F,E,G,H,I,J,L,V⟩:=e.nx;have W:F=0:=by rw[p]at L;omega
   refine⟨⟨e.lk,e.wn,e.rm,e.one,by rw[v];simp,e.vm,e.du,by show((En K a b).queue++[(jv m).1]).length=_;rw[agc,j];rfl,?_,B,0,E,by rw[<-W];exact G,by rw[<-W];exact H,I,J,by omega,.inl ⟨rfl,rfl⟩⟩,fun _ _=>rfl⟩;show((En K a b).queue++[(jv m).1]).drop _=_;rw[List.drop_append,ajD (by omega),v];simp[j]
 refine⟨⟨af,fun x y X Y f=>?_⟩,R,z,U.2,T,fun x y f=>?_⟩
 .rw[R,z x y f,z y x (ait f)];by_cases c:x=a/\y=b
  .obtain ⟨rfl,rfl⟩:=c;rw[u y x (ait f) (by omega),M];exact U.1
  .rw[u x y f c,T x y (by omega)];by_cases c2:x=b/\y=a
   .obtain ⟨rfl,rfl⟩:=c2;have i:=h.d x y X Y f;have⟨B,F,E,G,H,I,J,L,V⟩:=i.nx;exact⟨i.lk,i.wn,i.rm,i.one,i.le,i.vm,fun l=>(i.du l).imp (fun h=>A.1.trans h) id,i.ql,i.un,B,F,E,G,H,A.2.trans I,J,L,V⟩
   .rw[u y x (ait f) (by omega)];exact h.d x y X Y f
 .by_cases c:x=a/\y=b
  .rw[c.1,c.2];exact A
  .rw[u x y f c];exact⟨rfl,rfl⟩
end
end
section
def anK{n a b:Nat}:b∈others n a↔b<n/\b≠a:=by unfold others;simp
section
variable{K K':Cl}{n:Nat}{s C:Nat->Nat->Nat}
structure FlS(K K':Cl)(n:Nat):Prop where
 l:∀x y,(K'.tr x y).left=(K.tr x y).left
 q:∀x y,x≠y->Qn K' x y=Qn K x y
 e:∀x y,x≠y->(En K' x y).due=(En K x y).due/\(En K' x y).next=(En K x y).next
 nd:K'.nodes=K.nodes
theorem FlS.refl(K:Cl)(n:Nat):FlS K K n:=⟨fun _ _=>rfl,fun _ _ _=>rfl,fun _ _ _=>⟨rfl,rfl⟩,rfl⟩
def FlS.trans{b:Cl}(h:FlS K K' n)(a:FlS K' b n):FlS K b n:=⟨fun x y=>(a.l x y).trans (h.l x y),fun x y c=>(a.q x y c).trans (h.q x y c),fun x y c=>⟨(a.e x y c).1.trans (h.e x y c).1,(a.e x y c).2.trans (h.e x y c).2⟩,a.nd.trans h.nd⟩
def anH(h:ER K n s C){a:Nat}(p:a<n)(r:∀b,b≠a->Qn K a b=[])(hn:K.nodes.length=n):ER (K.flush a) n s C/\FlS K (K.flush a) n/\(∀b,b<n->b≠a->(K.tr a b).left≠ []->s a b=0->((K.flush a).tr a b).bN=1):=by
 have t:∀(l:List Nat) (d:Cl),(∀b∈l,b<n/\b≠a)->ER d n s C->FlS K d n->ER (l.foldl (fun c b=>c.oV a b) d) n s C/\FlS K (l.foldl (fun c b=>c.oV a b) d) n/\(∀b,(b∈l\/(d.tr a b).bN=1)->b<n->b≠a->(K.tr a b).left≠ []->s a b=0->((l.foldl (fun c b=>c.oV a b) d).tr a b).bN=1):=by
  intro l;induction l with
  |nil=>exact fun d _ g f=>⟨g,f,fun b i _ _ _ _=>i.elim (fun h=>by simp at h) id⟩
  |cons b l u=>
   intro d k g f;have⟨v,j⟩:=k b (by simp);have⟨w,x,y,z,A,B⟩:=apG g p v (ait j) (by rw[f.q a b (ait j)];exact r b j);have D:FlS K (d.oV a b) n:=f.trans ⟨x,y,B,rfl⟩;have⟨E,F,G⟩:=u (d.oV a b) (fun c hc=>k c (by simp[hc])) w D;refine⟨E,F,fun c hc c1 c2 c3 c4=>G c ?_ c1 c2 c3 c4⟩;by_cases e:c=b
   .subst e;exact .inr (z (by rw[f.l];exact c3) c4)
   .rcases hc with hc|hc
    .rcases aeM.1 hc with hc|hc
     .exact absurd hc e
     .exact .inl hc
    .exact .inr (by rw[A a c (.inr e)];exact hc)
 have:=t (others K.nodes.length a) K (fun b i=>by have:=anK.1 i;rw[hn]at this;exact this) h (FlS.refl K n);exact⟨this.1,this.2.1,fun b m o=>this.2.2 b (.inl (anK.2 ⟨by rw[hn];exact m,o⟩)) m o⟩
def aqc(h:ER K n s C)(u:∀x y,C x y<1000000000){a b:Nat}(E:a<n)(G:b<n)(j:a≠b)(m:Qn K a b=[])(v:Qn K b a=[]):ER (K.vT a b) n s C/\(∀x y,x≠y-> ¬(x=a/\y=b)->Qn (K.vT a b) x y=Qn K x y/\En (K.vT a b) x y=En K x y)/\(K.vT a b).tr=K.tr/\(K.vT a b).nodes=K.nodes/\
  ((∃f,Qn (K.vT a b) a b=[f])\/Qn (K.vT a b) a b=[]/\s b a=0/\((K.tr a b).bN=0\/0<s a b))/\((K.tr a b).bN=1->s a b=0->∃z,Qn (K.vT a b) a b=[z]/\(lF (jV z)).1.kind=1):=by
 have e:=h.d a b E G j
 have g:=h.d b a G E (ait j)
 obtain⟨B,F,o,H,I,w,A,J,L⟩:=e.nx
 obtain⟨B',F',c1,c2,c3,c4,c5,c6,V⟩:=g.nx
 rw[m]at e L
 rw[v]at V
 have W:F=0:=by
  rcases L with⟨_,h⟩|⟨h,_⟩|⟨h,_⟩
  .exact h
  .cases h
  .cases h
 subst W
 obtain⟨r,M⟩:=eg ((K.pipe a b).go (cT a b)).1
 have k:K.vT a b=K.eR a b r:=by unfold Cl.vT;rw[M]
 have X:(K.pipe a b).e (cT a b)=En K a b:=rfl
 have Y:(K.pipe a b).q (cT a b)=[]:=m
 have Z:=h.rm a b
 have r1:r.e (cT a b)=(iK (En K a b)).1/\r.e (!cT a b)=(K.pipe a b).e (!cT a b)/\r.q (cT a b)=(gL (K.pipe a b).room (iK (En K a b)).2 [] 0).1/\r.q (!cT a b)=(K.pipe a b).q (!cT a b)/\r.room=(K.pipe a b).room:=by
  rw[<-M]
  unfold Pp.go
  simp only[X,Y]
  refine⟨pO _ _ _,qn _ _ (by simp),pO _ _ _,qn _ _ (by simp),rfl⟩
 obtain⟨r2,r3,r4,r5,r6⟩:=r1
 have N:∀f:Fm,(jW f).2=0->(gL (K.pipe a b).room [f] [] 0).1=[(jW f).1]:=fun f h0=>by
  unfold gL
  rw[if_pos ⟨h0,by simp;omega⟩]
  rfl
 have O:0<=(En K a b).next/\(En K a b).next<18446744073709551616:=by rw[c4];have:=u b a;omega
 have P:En (K.vT a b) a b=(iK (En K a b)).1:=by rw[k,(anb K j j r).1,if_pos ⟨rfl,rfl⟩,r2]
 have aa:Qn (K.vT a b) a b=(gL (K.pipe a b).room (iK (En K a b)).2 [] 0).1:=by rw[k,(anb K j j r).2,if_pos ⟨rfl,rfl⟩,r4]
 have l:∀x y,x≠y-> ¬(x=a/\y=b)->Qn (K.vT a b) x y=Qn K x y/\En (K.vT a b) x y=En K x y:=fun x y i c=>by
  rw[k,(anb K j i r).1,(anb K j i r).2,if_neg c,if_neg c]
  split
  .rename_i c;rw[c.1,c.2,r3,r5];unfold En Qn;rw[anj K a b,anq j];exact⟨rfl,rfl⟩
  .exact ⟨rfl,rfl⟩
 have ab:∀x y,8<=((K.vT a b).pipe x y).room:=fun x y=>by
  have ad:((K.vT a b).pipe x y)=if min x y=min a b/\max x y=max a b then r else K.pipe x y:=by rw[k];rfl
  rw[ad]
  split
  .rw[r6];exact Z
  .exact h.rm x y
 have ae:∃q:List bx,Qn (K.vT a b) a b=q/\GJ (iK (En K a b)).1 (En K b a) (K.tr a b).left (K.tr a b).bN q [] (s a b) (C a b)/\(iK (En K a b)).1.next=(En K a b).next/\((iK (En K a b)).1.due=true\/q≠ []\/((En K a b).due=false/\(iK (En K a b)).1.due=false))/\
   ((∃f,q=[f])\/q=[]/\s b a=0/\((K.tr a b).bN=0\/0<s a b))/\((K.tr a b).bN=1->s a b=0->∃z,q=[z]/\(lF (jV z)).1.kind=1):=by
  rw[aa]
  rw[v]at e
  rcases ap5 e (u a b)with⟨t1,t2,t3⟩|⟨t1,t2⟩
  .have Q:((En K a b).queue.getD (s a b) []).length<=64:=by
    have hu:=e.un
    rw[ae5]
    have:(En K a b).queue[s a b]?=((En K a b).queue.drop (s a b))[0]?:=by rw[ai3];rfl
    rw[this,hu]
    have R:=e.vm
    generalize(K.tr a b).left=af at R|-
    cases af with
    |nil=>simp
    |cons ag L'=>
     have hp:=(R ag (by simp)).put
     cases(K.tr a b).bN with
     |zero=>simp
     |succ n=>simp;omega
   have hR:ni ⟨1,1,(En K a b).base+s a b,(En K a b).next,(En K a b).queue.getD (s a b) []⟩=true:=by
    rw[ae5]at Q
    simp[ni,Q]
   have S:(En K a b).base+(s a b:Int)=((B+s a b:Nat):Int):=by rw[o];omega
   have ao:=u a b
   have T:(0:Int)<=((B+s a b:Nat):Int)/\((B+s a b:Nat):Int)<18446744073709551616:=by omega
   rw[<-S]at T
   obtain⟨D,bm⟩:=an7 hR T O
   rw[t3]
   refine⟨_,N _ D,⟨e.lk,e.wn,e.rm,e.one,e.le,e.vm,fun h=>(e.du h).imp id fun h=>absurd rfl h,e.ql,e.un,B,1,o,rfl,rfl,w,A,by omega,.inr (.inl ⟨by rw[S],rfl⟩)⟩,rfl,.inr (.inl (by simp)),.inl ⟨_,rfl⟩,fun _ _=>⟨_,rfl,by rw[bm];rfl⟩⟩
  .rw[t2]
   have ah:GJ {En K a b with due:=false} (En K b a) (K.tr a b).left (K.tr a b).bN [] [] (s a b) (C a b):=⟨e.lk,e.wn,e.rm,e.one,e.le,e.vm,e.du,e.ql,e.un,B,0,o,H,I,w,A,J,.inl ⟨rfl,rfl⟩⟩
   have ai:(K.tr a b).bN=0\/0<s a b:=by have:=e.wn;omega
   have U:¬((K.tr a b).bN=1/\s a b=0):=fun⟨x,y⟩=>by omega
   by_cases c:(En K a b).due=true
   .rw[if_pos c]
    obtain⟨D,_⟩:=an7 (f:=⟨2,1,0,(En K a b).next,[]⟩) (by simp[ni]) (by simp) O
    exact⟨_,N _ D,⟨e.lk,e.wn,e.rm,e.one,e.le,e.vm,e.du,e.ql,e.un,B,0,o,H,I,w,A,J,.inr (.inr ⟨rfl,rfl⟩)⟩,rfl,.inr (.inl (by simp)),.inl ⟨_,rfl⟩,fun x y=>absurd ⟨x,y⟩ U⟩
   .rw[if_neg c]
    have aj:s b a=0:=by
     by_cases z:0<s b a
     .rcases g.du z with h|h
      .exact absurd h c
      .exact absurd m h
     .omega
    exact⟨_,rfl,ah,rfl,.inr (.inr ⟨by simpa using c,rfl⟩),.inr ⟨rfl,aj,ai⟩,fun x y=>absurd ⟨x,y⟩ U⟩
 obtain⟨q,p,m2,m3,m4,m5,m6⟩:=ae
 refine⟨⟨ab,fun x y hx hy i=>?_⟩,l,by rw[k];rfl,by rw[k];rfl,by rw[p];exact m5,by rw[p];exact m6⟩
 have ak:(K.vT a b).tr=K.tr:=by rw[k];rfl
 rw[ak]
 by_cases c:x=a/\y=b
 .obtain ⟨rfl,rfl⟩:=c
  rw[P,p,(l y x (ait i) (by omega)).1,(l y x (ait i) (by omega)).2,v]
  exact m2
 .rw[(l x y i c).1,(l x y i c).2]
  by_cases c2:x=b/\y=a
  .obtain ⟨rfl,rfl⟩:=c2
   rw[P,p]
   obtain⟨B0,F0,d1,d2,d3,d4,d5,d6,d7⟩:=g.nx
   refine⟨g.lk,g.wn,g.rm,g.one,g.le,g.vm,fun hs=>?_,g.ql,g.un,B0,F0,d1,d2,d3,by rw[m3];exact d4,d5,d6,d7⟩
   rcases m4 with h|h|⟨h,h2⟩
   .exact .inl h
   .exact .inr h
   .rcases g.du hs with t|t
    .rw[h]at t;cases t
    .exact absurd m t
  .rw[(l y x (ait i) (by omega)).1,(l y x (ait i) (by omega)).2]
   exact h.d x y hx hy i
end
end
section
section
variable{K K':Cl}{n:Nat}{s C:Nat->Nat->Nat}{a b:Nat}
def aqA(g:a≠b){z:bx}(i:Qn K a b=[z]){f:Fm}(j:lF (jV z)=(f,0)):∃r,(K.pipe b a).jk (cT b a) 0=(r,(iY (En K b a) f).2)/\r.e (cT b a)=(iY (En K b a) f).1/\r.e (!cT b a)=En K a b/\r.q (!cT b a)=[]/\r.q (cT b a)=Qn K b a/\r.room=(K.pipe a b).room:=by
 have c:cT a b=!cT b a:=anq (ait g);have d:(K.pipe b a).q (!cT b a)=[z]:=by rw[<-c,anj];exact i
 have k:(K.pipe b a).look (cT b a) 0=some z:=by unfold Pp.look dV;rw[d];rfl
 have l:(K.pipe b a).e (!cT b a)=En K a b:=by rw[<-c,anj];rfl
 have m:∀t:Bool,(!t)≠t:=by decide
 have n:∀t:Bool,t≠!t:=by decide
 refine⟨_,by unfold Pp.jk;rw[k];simp only;rw[j,if_pos rfl];rfl,?_⟩;cases h:(iY (((K.pipe b a).cut (cT b a) 0).e (cT b a)) f).2<;>
 .unfold Pp.zN Pp.jO Pp.cut Pp.ud up;refine⟨?_,?_,?_,?_,?_⟩
  .simp only[if_true];rfl
  .simp only[if_neg (m _)];exact l
  .simp only[if_true];rw[d];rfl
  .simp only[if_neg (n _)];rfl
  .rw[anj]
def GA(s:Nat->Nat->Nat)(a b k:Nat)(x y:Nat):Nat:=if x=a/\y=b then s a b+k else if x=b/\y=a then 0 else s x y
def aqC(h:ER K n s C)(F:∀x y,C x y<1000000000)(v:a<n)(w:b<n)(j:a≠b){z:bx}(G:Qn K a b=[z])(q:Qn K b a=[]):∃r o,(K.pipe b a).jk (cT b a) 0=(r,o)/\(∀x y,x≠y->Qn (K.eR b a r) x y=if x=a/\y=b then []else Qn K x y)/\(∀x y,x≠y->x≠b\/y≠a->En (K.eR b a r) x y=En K x y)/\
  ((∃m,(K.tr a b).left=[m]/\(K.tr a b).bN=1/\o=some (jv m).1/\ER ((K.eR b a r).tell a b) n (GA s a b 1) C)\/(o=none/\(lF (jV z)).1.kind=2/\ER (K.eR b a r) n (GA s a b 0) C)):=by
 have i:=ait j
 have⟨f,O,hc⟩:=aqh (h.d a b v w j) (h.d b a w v i) q G (F a b) (F b a) (h.d b a w v i).lk
 have⟨r,P,Q,R,S,T,U⟩:=aqA j G O
 have l:∀x y,x≠y->En (K.eR b a r) x y=if x=b/\y=a then(iY (En K b a) f).1 else En K x y:=fun x y g=>by
  rw[(anb K i g r).1]
  split
  .exact Q
  .split
   .rename_i c;rw[R,c.1,c.2]
   .rfl
 have p:∀x y,x≠y->Qn (K.eR b a r) x y=if x=a/\y=b then []else Qn K x y:=fun x y g=>by
  rw[(anb K i g r).2]
  by_cases c:x=b/\y=a
  .rw[if_pos c,T,if_neg (by omega),c.1,c.2]
  .rw[if_neg c,S]
 have H:∀x y,8<=((K.eR b a r).pipe x y).room:=fun x y=>by
  have e:((K.eR b a r).pipe x y)=if min x y=min b a/\max x y=max b a then r else K.pipe x y:=rfl
  rw[e]
  split
  .rw[U];exact h.rm a b
  .exact h.rm x y
 refine⟨r,_,P,p,fun x y g hc=>by rw[l x y g,if_neg (by omega)],?_⟩
 have I:∀x y,x<n->y<n->x≠y-> ¬(x=a/\y=b)-> ¬(x=b/\y=a)->∀k,GJ (En (K.eR b a r) x y) (En (K.eR b a r) y x) (K.tr x y).left (K.tr x y).bN (Qn (K.eR b a r) x y) (Qn (K.eR b a r) y x) (GA s a b k x y) (C x y):=fun x y t u g c1 c2 k=>by
  rw[l x y g,l y x (ait g),p x y g,p y x (ait g),if_neg c2,if_neg (by omega),if_neg c1,if_neg (by omega)]
  unfold GA
  rw[if_neg c1,if_neg c2]
  exact h.d x y t u g
 rcases hc with⟨m,J,L,A,B,D⟩|⟨A,V,B,D⟩
 .refine .inl ⟨m,J,L,A,H,fun x y t u g=>?_⟩
  have M:∀x y,En ((K.eR b a r).tell a b) x y=En (K.eR b a r) x y:=fun _ _=>rfl
  have N:∀x y,Qn ((K.eR b a r).tell a b) x y=Qn (K.eR b a r) x y:=fun _ _=>rfl
  have E:((K.eR b a r).tell a b).tr x y=if x=a/\y=b then⟨[],0⟩else K.tr x y:=by
   unfold Cl.tell
   rw[aod]
   have:(K.eR b a r).tr=K.tr:=rfl
   rw[this,J,L]
   rfl
  rw[M,M,N,N,E]
  by_cases c1:x=a/\y=b
  .rw[if_pos c1,c1.1,c1.2,l a b j,l b a i,p a b j,p b a i,if_neg (by omega),if_pos ⟨rfl,rfl⟩,if_pos ⟨rfl,rfl⟩,if_neg (by omega),q]
   unfold GA
   rw[if_pos ⟨rfl,rfl⟩]
   exact B
  .rw[if_neg c1]
   by_cases c2:x=b/\y=a
   .rw[c2.1,c2.2,l a b j,l b a i,p a b j,p b a i,if_pos ⟨rfl,rfl⟩,if_neg (by omega),if_neg (by omega),if_pos ⟨rfl,rfl⟩,q]
    unfold GA
    rw[if_neg (by omega),if_pos ⟨rfl,rfl⟩]
    exact D
   .exact I x y t u g c1 c2 1
 .refine .inr ⟨A,V,H,fun x y t u g=>?_⟩
  have E:(K.eR b a r).tr=K.tr:=rfl
  rw[E]
  by_cases c1:x=a/\y=b
  .rw[c1.1,c1.2,l a b j,l b a i,p a b j,p b a i,if_neg (by omega),if_pos ⟨rfl,rfl⟩,if_pos ⟨rfl,rfl⟩,if_neg (by omega),q]
   unfold GA
   rw[if_pos ⟨rfl,rfl⟩]
   exact B
  .by_cases c2:x=b/\y=a
   .rw[c2.1,c2.2,l a b j,l b a i,p a b j,p b a i,if_pos ⟨rfl,rfl⟩,if_neg (by omega),if_neg (by omega),if_pos ⟨rfl,rfl⟩,q]
    unfold GA
    rw[if_neg (by omega),if_pos ⟨rfl,rfl⟩]
    exact D
   .exact I x y t u g c1 c2 0
end
end
section
section
variable{K K':Cl}{n:Nat}{s C:Nat->Nat->Nat}{a b:Nat}
def GJ.oY{e b:Lk}{a S c:Nat}{q d:List bx}{m:cY}(h:GJ e b [] a q d S c)(hm:Vm m):GJ e b [m] a q d S (c+1):=by
 have f:a=0:=by have:=h.le;simp at this;exact this
 subst f;have⟨B,F,g,i,j,k,l,n,o⟩:=h.nx;exact⟨h.lk,h.wn,h.rm,by simp,by simp,by simpa using hm,h.du,h.ql,h.un,B,F,g,i,j,k,by simp at l|-;omega,n,o⟩
def apA(h:ER K n s C)(hn:K.nodes.length=n)(o:a<n)(p:b<n)(q:a≠b){m:cY}(hm:Vm m)(g:(K.tr a b).left=[]):ER (K.il ⟨a,b,m⟩) n s (fun x y=>if x=a/\y=b then C a b+1 else C x y)/\(∀x y,(K.il ⟨a,b,m⟩).tr x y=if x=a/\y=b then⟨[m],(K.tr a b).bN⟩else K.tr x y)/\(K.il ⟨a,b,m⟩).nodes=K.nodes/\(K.il ⟨a,b,m⟩).pp=K.pp:=by
 have i:K.two ((⟨a,b,m⟩:cB).src) ((⟨a,b,m⟩:cB).dst):=by show((0:Int)<=(a:Int)/\(a:Int)<K.nodes.length)/\((0:Int)<=(b:Int)/\(b:Int)<K.nodes.length)/\(a:Int)≠(b:Int);omega
 have e:K.il ⟨a,b,m⟩=K.mO a b ⟨[m],(K.tr a b).bN⟩:=by unfold Cl.il;rw[if_pos i];show K.mO a b ⟨(K.tr a b).left++[m],_⟩=_;rw[g];rfl
 rw[e];refine⟨⟨h.rm,fun x y j k l=>?_⟩,fun x y=>aod K a b x y _,rfl,rfl⟩;have f:=h.d x y j k l;rw[aod];by_cases c:x=a/\y=b
 .rw[if_pos c,if_pos c];obtain⟨rfl,rfl⟩:=c;rw[g]at f;exact f.oY hm
 .rw[if_neg c,if_neg c];exact f
def app{a:Nat}(k:a<n):∀(l:List (Nat×cY)) {K:Cl} {C:Nat->Nat->Nat},ER K n s C->K.nodes.length=n->(l.Pairwise fun x y=>x.1≠y.1)->(∀p∈l,p.1<n/\a≠p.1/\Vm p.2/\(K.tr a p.1).left=[])->
  ∃d,(∀x y,d x y<=C x y+1/\(x≠a->d x y=C x y))/\ER ((l.map fun p=>(⟨a,p.1,p.2⟩:cB)).foldl Cl.il K) n s d/\((l.map fun p=>(⟨a,p.1,p.2⟩:cB)).foldl Cl.il K).nodes=K.nodes/\((l.map fun p=>(⟨a,p.1,p.2⟩:cB)).foldl Cl.il K).pp=K.pp/\
   (∀x y,((l.map fun p=>(⟨a,p.1,p.2⟩:cB)).foldl Cl.il K).tr x y=if x=a then(match l.find? fun p=>p.1=y with|some p=>⟨[p.2],(K.tr a y).bN⟩|none=>K.tr x y)else K.tr x y)/\(∀y,(∀p∈l,p.1≠y)->d a y=C a y)
 |[],K,C,h,_,_,_=>⟨C,fun _ _=>⟨by omega,fun _=>rfl⟩,h,rfl,rfl,fun x y=>by simp,fun _ _=>rfl⟩
 |(b,m)::l,K,C,h,hn,t,o=>by
  have⟨u,v,w,z⟩:=o (b,m) (by simp)
  have i:=ahg.1 t
  have⟨A,j,q,B⟩:=apA h hn k u v w z
  have⟨d,c1,c2,c3,c4,c5,r⟩:=app k l A (by rw[q];exact hn) i.2 (fun p hp=>by
   have⟨D,E,F,G⟩:=o p (by simp[hp])
   refine⟨D,E,F,?_⟩
   rw[j,if_neg (fun c=>i.1 p hp c.2.symm)]
   exact G)
  have H:d a b=C a b+1:=by rw[r b (fun p hp c=>i.1 p hp c.symm)];simp
  simp only[ag9,ai2]
  refine⟨d,fun x y=>⟨?_,fun f=>?_⟩,c2,by rw[c3,q],by rw[c4,B],fun x y=>?_,fun y g=>?_⟩
  .by_cases c:x=a/\y=b
   .rw[c.1,c.2,H];exact ad3 _
   .have:=(c1 x y).1;rw[if_neg c]at this;exact this
  .rw[(c1 x y).2 f,if_neg (fun c=>f c.1)]
  .rw[c5]
   by_cases f:x=a
   .subst f
    rw[if_pos rfl,if_pos rfl,akh]
    by_cases g:b=y
    .subst g
     have:l.find? (fun p=>p.1=b)=none:=by
      rw[alW]
      intro p hp
      have:=i.1 p hp
      simp only at this
      simp;exact fun c=>this c.symm
     rw[this]
     simp only[decide_true]
     rw[j,if_pos ⟨rfl,rfl⟩]
    .have e:decide ((b,m).1=y)=false:=by simpa using g
     rw[e,j,if_neg (fun c=>g c.2.symm)]
   .rw[if_neg f,if_neg f,j,if_neg (fun c=>f c.1)]
  .have I:b≠y:=g (b,m) (by simp)
   rw[r y (fun p hp=>g p (by simp[hp])),if_neg (fun c=>I c.2.symm)]
end
end
section
section
variable{K K':Cl}{n:Nat}{s C:Nat->Nat->Nat}
def apa(h:ER K n s C)(hn:K.nodes.length=n){a:Nat}(k:a<n)(o:∀b,b≠a->Qn K a b=[]){v:Nd}(F:v.id=a)(l:List (Nat×cY))(r:l.Pairwise fun x y=>x.1≠y.1)(t:∀p∈l,p.1<n/\a≠p.1/\Vm p.2/\(K.tr a p.1).left=[]):
  ∃c,(∀x y,c x y<=C x y+1/\(x≠a->c x y=C x y))/\(∀y,(∀p∈l,p.1≠y)->c a y=C a y)/\ER (K.take v (l.map fun p=>(⟨a,p.1,p.2⟩:cB))) n s c/\(K.take v (l.map fun p=>(⟨a,p.1,p.2⟩:cB))).nodes=K.nodes.set a v/\
   (∀x y,x≠y->Qn (K.take v (l.map fun p=>(⟨a,p.1,p.2⟩:cB))) x y=Qn K x y/\(En (K.take v (l.map fun p=>(⟨a,p.1,p.2⟩:cB))) x y).due=(En K x y).due/\(En (K.take v (l.map fun p=>(⟨a,p.1,p.2⟩:cB))) x y).next=(En K x y).next)/\
   (∀x y,((K.take v (l.map fun p=>(⟨a,p.1,p.2⟩:cB))).tr x y).left=if x=a then(match l.find? fun p=>p.1=y with|some p=>[p.2]|none=>(K.tr x y).left)else(K.tr x y).left)/\
   (∀b,b<n->b≠a->((K.take v (l.map fun p=>(⟨a,p.1,p.2⟩:cB))).tr a b).left≠ []->s a b=0->((K.take v (l.map fun p=>(⟨a,p.1,p.2⟩:cB))).tr a b).bN=1):=by
 have m:v.id.toNat=a:=by omega
 have⟨c,c1,c2,c3,c4,c5,u⟩:=app k l (K:=K.pc v) (C:=C) ⟨h.rm,h.d⟩ (by simp[Cl.pc,hn]) r t
 have e:K.take v (l.map fun p=>(⟨a,p.1,p.2⟩:cB))=((l.map fun p=>(⟨a,p.1,p.2⟩:cB)).foldl Cl.il (K.pc v)).flush a:=by unfold Cl.take;rw[m]
 rw[e]
 generalize(l.map fun p=>(⟨a,p.1,p.2⟩:cB)).foldl Cl.il (K.pc v)=G at c2 c3 c4 c5
 have g:∀x y,Qn G x y=Qn K x y/\En G x y=En K x y:=fun x y=>by
  unfold Qn En Cl.pipe
  rw[c4]
  exact⟨rfl,rfl⟩
 have w:G.nodes.length=n:=by rw[c3];simp[Cl.pc,hn]
 have⟨z,f,A⟩:=anH c2 k (fun b i=>by rw[(g a b).1];exact o b i) w
 refine⟨c,c1,u,z,by rw[f.nd,c3];simp only[Cl.pc,m],fun x y j=>?_,fun x y=>?_,fun b i B D E=>A b i B (by rw[<-f.l];exact D) E⟩
 .rw[f.q x y j,(f.e x y j).1,(f.e x y j).2,(g x y).1,(g x y).2]
  exact⟨rfl,rfl,rfl⟩
 .rw[f.l,c5]
  split
  .cases l.find? fun p=>p.1=y<;>rfl
  .rfl
end
end
section
section
variable{n:Nat}{s C:Nat->Nat->Nat}
def ao5(j:∀x y,C x y<1000000000){a:Nat}(m:a<n):∀(l:List Nat) (K:Cl) (k:Nat),ER K n s C->(∀b∈l,b<n/\a≠b/\Qn K a b=[]/\Qn K b a=[])->l.Nodup->
  ER (Aq a l K k).1 n s C/\(Aq a l K k).1.tr=K.tr/\(Aq a l K k).1.nodes=K.nodes/\(∀x y,x≠y-> ¬(x=a/\y∈l)->Qn (Aq a l K k).1 x y=Qn K x y/\En (Aq a l K k).1 x y=En K x y)/\
  (∀b∈l,((∃f,Qn (Aq a l K k).1 a b=[f])\/Qn (Aq a l K k).1 a b=[]/\s b a=0/\((K.tr a b).bN=0\/0<s a b))/\((K.tr a b).bN=1->s a b=0->∃z,Qn (Aq a l K k).1 a b=[z]/\(lF (jV z)).1.kind=1))
 |[],K,k,h,_,_=>⟨h,rfl,rfl,fun _ _ _ _=>⟨rfl,rfl⟩,by simp⟩
 |b::l,K,k,h,d,A=>by
  have⟨B,o,D,E⟩:=d b (by simp)
  have⟨p,F⟩:=akR.1 A
  have⟨G,g,q,H,I,J⟩:=aqc h j m B o D E
  have r:∀c∈l,Qn (K.vT a b) a c=Qn K a c/\En (K.vT a b) a c=En K a c/\Qn (K.vT a b) c a=Qn K c a/\En (K.vT a b) c a=En K c a:=fun c hc=>by
   have i:=(d c (by simp[hc])).2.1
   have L:c≠b:=fun e=>p (e▸hc)
   have u:=g a c i (fun e=>L e.2)
   have w:=g c a (ait i) (fun e=>i e.1.symm)
   exact⟨u.1,u.2,w.1,w.2⟩
  have⟨M,N,O,t,P⟩:=ao5 j m l (K.vT a b) (k+((K.pipe a b).go (cT a b)).2) G (fun c hc=>by
   have⟨Q,R,S,T⟩:=d c (by simp[hc])
   exact⟨Q,R,by rw[(r c hc).1];exact S,by rw[(r c hc).2.2.1];exact T⟩) F
  have e:Aq a (b::l) K k=Aq a l (K.vT a b) (k+((K.pipe a b).go (cT a b)).2):=rfl
  rw[e]
  refine⟨M,by rw[N,q],by rw[O,H],fun x y v hc=>?_,fun c hc=>?_⟩
  .have u:=t x y v (fun e=>hc ⟨e.1,by simp[e.2]⟩)
   have w:=g x y v (fun e=>hc ⟨e.1,by simp[e.2]⟩)
   exact⟨u.1.trans w.1,u.2.trans w.2⟩
  .rcases aeM.1 hc with rfl|hc
   .have u:=t a c o (fun e=>p e.2)
    rw[u.1]
    exact⟨I,J⟩
   .have:=P c hc
    rw[q]at this
    exact this
end
end
section
section
variable{K K':Cl}{n:Nat}{s C:Nat->Nat->Nat}{a b:Nat}
def aqH(h:ER K n s C)(w:∀x y,C x y<1000000000)(hn:K.nodes.length=n)(j:a<n)(k:b<n)(f:a≠b){z:bx}(p:Qn K a b=[z])(A:Qn K b a=[]){l:List Ev}{e:Int}(hc:K.Comes a b 0 K' l e):∃r o,(K.pipe b a).jk (cT b a) 0=(r,o)/\(∀x y,x≠y->Qn (K.eR b a r) x y=if x=a/\y=b then []else Qn K x y)/\(∀x y,x≠y->x≠b\/y≠a->En (K.eR b a r) x y=En K x y)/\
  ((∃m,(K.tr a b).left=[m]/\(K.tr a b).bN=1/\ER ((K.eR b a r).tell a b) n (GA s a b 1) C/\((fK (K.nodes.getD b .zero) a m).e=0->∃v,jt (fK (K.nodes.getD b .zero) a m) v/\K'=(((K.eR b a r).tell a b).take v.n v.out).flush b/\e=0))\/
   (o=none/\(lF (jV z)).1.kind=2/\ER (K.eR b a r) n (GA s a b 0) C/\K'=(K.eR b a r).flush b/\e=0)):=by
 have⟨r,o,t,B,D,E⟩:=aqC h w j k f p A
 have F:K.two (a:Int) (b:Int):=by
  show((0:Int)<=(a:Int)/\(a:Int)<K.nodes.length)/\((0:Int)<=(b:Int)/\(b:Int)<K.nodes.length)/\(a:Int)≠(b:Int)
  omega
 have G:K.look a b 0=some z:=by
  unfold Cl.look
  rw[if_pos F]
  show(K.pipe b a).look (cT b a) 0=some z
  unfold Pp.look dV
  have:(K.pipe b a).q (!cT b a)=[z]:=by rw[<-anq (ait f),anj];exact p
  rw[this]
  rfl
 unfold Cl.Comes at hc
 rw[if_neg (by rw[G];simp)]at hc
 simp only[ais]at hc
 rw[t]at hc
 refine⟨r,o,t,B,D,?_⟩
 rcases E with⟨m,u,H,g,i⟩|⟨g,I,i⟩
 .subst g
  simp only at hc
  obtain⟨d,c,rfl⟩:=hc
  refine .inl ⟨m,u,H,i,fun J=>?_⟩
  have hm:Vm m:=(h.d a b j k f).vm m (by rw[u];simp)
  have L:=hm.put.2.2
  unfold Cl.Told at c
  rw[L]at c
  rw[if_neg (by simp)]at c
  have M:(K.eR b a r).nodes=K.nodes:=rfl
  rw[M,if_neg (by simpa using J)]at c
  have⟨v,N,O,Q,P⟩:=c
  exact⟨v,N,by rw[O],P⟩
 .subst g
  simp only at hc
  exact .inr ⟨rfl,I,i,hc.1,hc.2.2⟩
end
end
section
abbrev LL:=Nat->Nat->List cY
def wt(m:cY):Nat:=if m.kind=2 then 4 else if m.kind=1 then 3 else if m.kind=5 then 2 else 1
def fk(nd:Nat->Nd)(x y:Nat):Option Bool:=(j6 (nd x).dr.ai.af y).map fun s=>s.fork
def wl(nd:Nat->Nd)(b:Nat)(v:Nd):Nat->Nd:=fun i=>if i=b then v else nd i
def AI(L:LL)(a b:Nat)(l:List cY):LL:=fun x y=>if x=a/\y=b then l else L x y
def anV{nd:Nat->Nd}{b:Nat}{v:Nd}{g:Nat->Option Bool}(a:∀y:Nat,(j6 v.dr.ai.af y).map (fun s=>s.fork)=g y)(x y:Nat):fk (wl nd b v) x y=if x=b then g y else fk nd x y:=by
 unfold fk wl;split
 .rw[a]
 .rfl
def ant(n:Nat)(S:(Nat->Nd)->LL->Prop)(nd:Nat->Nd)(L:LL)(a b:Nat)(m:cY):Prop:=
 (fK (nd b) a m).e=0/\∀v,jt (fK (nd b) a m) v->
  (v.out=[]/\S (wl nd b v.n) (AI L a b []))\/
  ∃c d,c<n/\b≠c/\Vm d/\AI L a b [] b c=[]/\wt d<wt m/\v.out=[⟨b,c,d⟩]/\S (wl nd b v.n) (AI (AI L a b []) b c [d])
def anE(n:Nat)(S:(Nat->Nd)->LL->Prop):Prop:= ∀nd L a b m,S nd L->a<n->b<n->a≠b->L a b=[m]->ant n S nd L a b m
structure QuC(n:Nat)(E:Nat->Nat->Prop)(f:Nat->Nat->Option Bool)(L:LL):Prop where
 e:∀x y,x<n->y<n->((f x y).isSome=true↔E x y)
 p:∀x y b,x<n->y<n->f x y=some b->f y x=some (!b)
 o:∀x y,L x y=[]
structure HgC(n:Nat)(E:Nat->Nat->Prop)(A P:Nat)(f:Nat->Nat->Option Bool)(L:LL):Prop where
 e:∀x y,x<n->y<n->((f x y).isSome=true↔E x y\/x=A/\y=P)
 p:∀x y b,x<n->y<n->x≠A->y≠A->f x y=some b->f y x=some (!b)
 fp:f A P=some true
 w:∀z,z<n->E A z->f A z=some true/\f z A=some false/\L A z=[]/\L z A=[]\/f A z=some false/\f z A=some true/\L A z=[⟨2,1,0⟩]/\L z A=[]\/f A z=some false/\f z A=some false/\L A z=[]/\L z A=[⟨1,1,0⟩]
 o:∀x y, ¬(x=A/\y<n/\E A y)-> ¬(y=A/\x<n/\E A x)->L x y=[]
structure TlC(n:Nat)(E:Nat->Nat->Prop)(A P:Nat)(f:Nat->Nat->Option Bool)(L:LL):Prop where
 e:∀x y,x<n->y<n->((f x y).isSome=true↔E x y\/x=A/\y=P)
 p:∀x y b,x<n->y<n-> ¬(x=A/\y=P)->f x y=some b->f y x=some (!b)
 fp:f A P=some true
 m:L A P=[⟨5,1,0⟩]
 o:∀x y, ¬(x=A/\y=P)->L x y=[]
structure KwC(n:Nat)(E:Nat->Nat->Prop)(A P:Nat)(f:Nat->Nat->Option Bool)(L:LL):Prop where
 e:∀x y,x<n->y<n->((f x y).isSome=true↔E x y\/x=A/\y=P\/x=P/\y=A)
 p:∀x y b,x<n->y<n->f x y=some b->f y x=some (!b)
 m:L P A=[⟨6,1,0⟩]
 o:∀x y, ¬(x=P/\y=A)->L x y=[]
structure Ad(n:Nat)(E:Nat->Nat->Prop)(A P:Nat):Prop where
 lt:A<P
 pn:P<n
 sy:∀x y,E x y->E y x
 ne:¬E A P
 ir:∀x, ¬E x x
def Qu(n:Nat)(E:Nat->Nat->Prop)(nd:Nat->Nd)(L:LL):Prop:=(∀x,x<n->Nq (nd x) x n)/\QuC n E (fk nd) L
def Hg(n:Nat)(E:Nat->Nat->Prop)(A P:Nat)(nd:Nat->Nd)(L:LL):Prop:=Nh (nd A) A n P/\(∀x,x<n->x≠A->Nq (nd x) x n)/\HgC n E A P (fk nd) L
def Tl(n:Nat)(E:Nat->Nat->Prop)(A P:Nat)(nd:Nat->Nd)(L:LL):Prop:=Ne (nd A) A n P/\(∀x,x<n->x≠A->Nq (nd x) x n)/\TlC n E A P (fk nd) L
def Kw(n:Nat)(E:Nat->Nat->Prop)(A P:Nat)(nd:Nat->Nd)(L:LL):Prop:=Ne (nd A) A n P/\(∀x,x<n->x≠A->Nq (nd x) x n)/\KwC n E A P (fk nd) L
def amT(n:Nat)(E:Nat->Nat->Prop)(A P:Nat)(nd:Nat->Nd)(L:LL):Prop:=Hg n E A P nd L\/Tl n E A P nd L\/Kw n E A P nd L\/Qu n (fun x y=>E x y\/x=A/\y=P\/x=P/\y=A) nd L
section
variable{n A P z:Nat}{E:Nat->Nat->Prop}{f f':Nat->Nat->Option Bool}{L L':LL}{nd:Nat->Nd}
theorem HgC.token(d:Ad n E A P)(h:HgC n E A P f L)(s:z<n)(l:E A z)(t:L A z=[⟨2,1,0⟩])(k:∀x y,f' x y=if x=z/\y=A then some false else f x y)(q:∀x y,L' x y=if x=z/\y=A then [⟨1,1,0⟩]else if x=A/\y=z then []else L x y):HgC n E A P f' L':=by
 have u:z≠A:=fun c=>d.ir A (c▸l);have a:=h.w z s l;have v:=d.sy _ _ l;refine⟨fun x y m g=>?_,fun x y b m g a i B=>?_,?_,fun y g r=>?_,fun x y a i=>?_⟩
 .rw[k];have:=h.e x y m g;grind
 .have:=h.p x y b m g a i;grind
 .rw[k,if_neg (by omega)];exact h.fp
 .have i:=h.w y g r;have j:y≠A:=fun c=>d.ir A (c▸r);rw[k A y,k y A,q A y,q y A,if_neg (fun c=>j c.2)];by_cases c:y=z
  .subst c;rw[t]at a;simp[j,ait j];simp at a;exact a.1
  .simpa[c,j,ait j]using i
 .have:=h.o x y a i;grind
theorem HgC.fork(d:Ad n E A P)(h:HgC n E A P f L)(s:z<n)(l:E A z)(t:L z A=[⟨1,1,0⟩])(j:∀x y,f' x y=if x=A/\y=z then some true else f x y)(q:∀x y,L' x y=if x=z/\y=A then []else L x y):HgC n E A P f' L':=by
 have u:z≠A:=fun c=>d.ir A (c▸l);have a:=h.w z s l;have v:=d.sy _ _ l;refine⟨fun x y m g=>?_,fun x y b m g a i B=>?_,?_,fun y g r=>?_,fun x y a i=>?_⟩
 .rw[j];have:=h.e x y m g;grind
 .have:=h.p x y b m g a i;grind
 .rw[j];have:=h.fp;grind
 .have i:=h.w y g r;have k:y≠A:=fun c=>d.ir A (c▸r);rw[j A y,j y A,q A y,q y A];by_cases c:y=z
  .subst c;rw[t]at a;simp[k,ait k];simp at a;exact a.2
  .simpa[c,k,ait k]using i
 .have:=h.o x y a i;grind
theorem HgC.told(d:Ad n E A P)(h:HgC n E A P f L)(t:∀y b,f A y=some b->b=true)(q:∀x y,L' x y=if x=A/\y=P then [⟨5,1,0⟩]else L x y):TlC n E A P f L':=by
 have i:∀z,z<n->E A z->f A z=some true/\f z A=some false/\L A z=[]/\L z A=[]:=fun z u v=>by have j:=h.w z u v;have g:=t z;grind
 refine⟨h.e,fun x y b k l m r=>?_,h.fp,by rw[q,if_pos ⟨rfl,rfl⟩],fun x y m=>?_⟩
 .have j:=h.p x y b k l;have g:=(h.e x y k l).1 (by rw[r];rfl);have s:E x y:=by rcases g with g|g;exact g;exact absurd g m
  have B:=i x k;have C:=i y l;have D:=d.sy _ _ s;by_cases c:x=A
  .subst c;have:=C s;grind
  .by_cases a:y=A
   .subst a;have:=B D;grind
   .exact j c a r
 .rw[q,if_neg m];have j:=h.o x y;by_cases c:x=A/\y<n/\E A y
  .rw[c.1];exact(i y c.2.1 c.2.2).2.2.1
  .by_cases a:y=A/\x<n/\E A x
   .rw[a.1];exact(i x a.2.1 a.2.2).2.2.2
   .exact j c a
theorem TlC.known(d:Ad n E A P)(h:TlC n E A P f L)(i:∀x y,f' x y=if x=P/\y=A then some false else f x y)(j:∀x y,L' x y=if x=P/\y=A then [⟨6,1,0⟩]else if x=A/\y=P then []else L x y):KwC n E A P f' L':=by
 have hn:¬E P A:=fun c=>d.ne (d.sy _ _ c);have k:=d.lt;have l:=h.fp;refine⟨fun x y a g=>?_,fun x y b a g m=>?_,by rw[j,if_pos ⟨rfl,rfl⟩],fun x y q=>?_⟩
 .rw[i];have:=h.e x y a g;grind
 .have:=h.p x y b a g;grind
 .have:=h.o x y;grind
theorem KwC.quiet(d:Ad n E A P)(h:KwC n E A P f L)(g:∀x y,f' x y=f x y)(j:∀x y,L' x y=if x=P/\y=A then []else L x y):QuC n (fun x y=>E x y\/x=A/\y=P\/x=P/\y=A) f' L':=by
 refine⟨fun x y a c=>?_,fun x y b a c i=>?_,fun x y=>?_⟩
 .rw[g];exact h.e x y a c
 .rw[g]at i|-;exact h.p x y b a c i
 .rw[j];split
  .rfl
  .exact h.o x y ‹_›
def anI{x y:Nat}{b:Bool}(h:fk nd x y=some b):∃s,j6 (nd x).dr.ai.af y=some s/\s.fork=b:=by
 unfold fk at h;cases a:j6 (nd x).dr.ai.af y with
 |none=>rw[a]at h;cases h
 |some s=>rw[a]at h;exact⟨s,rfl,by simpa using h⟩
theorem Hg.token(d:Ad n E A P)(h:Hg n E A P nd L)(a:z<n)(b:E A z)(j:L A z=[⟨2,1,0⟩]):ant n (amT n E A P) nd L A z ⟨2,1,0⟩:=by
 have⟨k,f,i⟩:=h;have e:z≠A:=fun c=>d.ir A (c▸b);have hA:A<n:=by have:=d.lt;have:=d.pn;omega
 have F:=i.w z a b;obtain⟨x,l,m⟩:∃s,j6 (nd z).dr.ai.af A=some s/\s.fork=true:=anI (by grind);have o:L z A=[]:=by grind
 have g:=fun u=>apY (u:=u) (f z a e) l m;refine⟨(g ⟨nd z,[],[],0⟩).1,fun v p=>?_⟩;have⟨q,r,G,t⟩:=(g v).2 p;refine .inr ⟨A,⟨1,1,0⟩,hA,e,⟨by decide,by decide,rfl,rfl⟩,?_,by decide,q,.inl ⟨?_,fun y B C=>?_,?_⟩⟩
 .unfold AI;rw[if_neg (by omega)];exact o
 .unfold wl;rw[if_neg (ait e)];exact k
 .unfold wl;split
  .rename_i c;rw[c];exact r
  .exact f y B C
 .refine i.token d a b j (fun D y=>?_) fun D y=>?_
  .rw[anV (g:=fun y=>if y=A then some false else fk nd z y) fun y=>?_]
   .grind
   .rw[t];by_cases c:y=A
    .rw[c,if_pos rfl,if_pos rfl];rfl
    .rw[if_neg (by omega),if_neg c];rfl
  .unfold AI;rfl
theorem Hg.fork(d:Ad n E A P)(h:Hg n E A P nd L)(f:z<n)(a:E A z)(m:L z A=[⟨1,1,0⟩]):ant n (amT n E A P) nd L z A ⟨1,1,0⟩:=by
 have⟨C,D,i⟩:=h;have U:z≠A:=fun c=>d.ir A (c▸a);have hA:A<n:=by have:=d.lt;have:=d.pn;omega
 have V:=i.w z f a;obtain⟨x,F,G⟩:∃s,j6 (nd A).dr.ai.af z=some s/\s.fork=false:=anI (by grind);have g:=fun v=>apL (v:=v) C F G;refine⟨by have⟨_,_,q,_⟩:=g ⟨nd z,[],[],0⟩;exact q,fun v H=>?_⟩;have⟨u,I,_,J⟩:=g v;have p:∀y,y<n->y≠A->Nq (wl nd A v.n y) y n:=fun y K r=>by unfold wl;rw[if_neg r];exact D y K r
 have M:∀y:Nat,(j6 u.dr.ai.af y).map (fun s=>s.fork)=if y=z then some true else fk nd A y:=fun y=>by
  rw[I];by_cases c:y=z
  .rw[c,if_pos rfl,if_pos rfl];rfl
  .rw[if_neg (by omega),if_neg c];rfl
 have t:(∀y:Nat,(j6 v.n.dr.ai.af y).map (fun s=>s.fork)=(j6 u.dr.ai.af y).map (fun s=>s.fork))->∀x y,fk (wl nd A v.n) x y=if x=A/\y=z then some true else fk nd x y:=fun N x y=>by rw[anV (g:=fun y=>if y=z then some true else fk nd A y) fun y=>by rw[N,M]];grind
 rcases J H with⟨_,j,e,O,k⟩|⟨w1,j,e,O,k⟩
 .refine .inl ⟨j,.inl ⟨by unfold wl;rw[if_pos rfl];exact e,p,i.fork d f a m (t fun y=>by rw[k]) fun x y=>rfl⟩⟩
 .have Q:=t fun y=>by rw[k];cases j6 u.dr.ai.af y<;>rfl
  have R:=d.ne;have W:=d.lt;have B:=i.fork (L':=AI L z A []) d f a m Q fun x y=>rfl;refine .inr ⟨P,⟨5,1,0⟩,d.pn,by omega,⟨by decide,by decide,rfl,rfl⟩,?_,by decide,j,.inr (.inl ⟨by unfold wl;rw[if_pos rfl];exact e,p,B.told d (fun y b S=>?_) fun x y=>rfl⟩)⟩
  .exact B.o A P (fun c=>R c.2.2) fun c=>by omega
  .have ⟨s,l,T⟩:=anI S;unfold wl at l;rw[if_pos rfl]at l;rw[<-T];exact(e.sd s (anh l).1).1
theorem Tl.new(d:Ad n E A P)(h:Tl n E A P nd L):ant n (amT n E A P) nd L A P ⟨5,1,0⟩:=by
 have⟨p,i,f⟩:=h;have C:=d.lt;have j:=d.pn;have q:=d.ne
 have k:fk nd P A=none:=by
  have l:=f.e P A j (by omega);cases c:fk nd P A with
  |none=>rfl
  |some b=>
   rw[c]at l;rcases l.1 rfl with m|m
   .exact absurd (d.sy _ _ m) q
   .omega
 have r:cJ (nd P).dr.ai.af (A:Int)=false:=by rw[<-anx];unfold fk at k;simpa using k
 have g:=fun v=>apW (v:=v) (i P j (by omega)) (a:=(A:Int)) ⟨by omega,by omega⟩ r;refine⟨(g ⟨nd P,[],[],0⟩).1,fun v s=>?_⟩;have⟨t,u,D,w⟩:=(g v).2 s;refine .inr ⟨A,⟨6,1,0⟩,by omega,by omega,⟨by decide,by decide,rfl,rfl⟩,?_,by decide,t,.inr (.inr (.inl ⟨?_,fun y z B=>?_,?_⟩))⟩
 .unfold AI;rw[if_neg (by omega)];exact f.o P A (by omega)
 .unfold wl;rw[if_neg (by omega)];exact p
 .unfold wl;split
  .rename_i c;rw[c];exact u
  .exact i y z B
 .refine f.known d (fun x y=>?_) fun x y=>rfl;rw[anV (g:=fun y=>if y=A then some false else fk nd P y) fun y=>?_]
  .grind
  .rw[w];by_cases c:y=A
   .rw[c,if_pos rfl,if_pos rfl];rfl
   .rw[if_neg (by omega),if_neg c];rfl
theorem Kw.known(d:Ad n E A P)(h:Kw n E A P nd L):ant n (amT n E A P) nd L P A ⟨6,1,0⟩:=by
 have⟨a,b,e⟩:=h;have m:=d.lt;have o:=d.pn;have g:=fun v=>apJ (v:=v) a;refine⟨(g ⟨nd P,[],[],0⟩).1,fun v f=>?_⟩;have⟨i,j,p,k⟩:=(g v).2 f;refine .inl ⟨i,.inr (.inr (.inr ⟨fun y l=>?_,?_⟩))⟩
 .unfold wl;split
  .rename_i c;rw[c];exact j
  .exact b y l ‹_›
 .refine e.quiet d (fun x y=>?_) fun x y=>rfl;rw[anV (g:=fun y=>fk nd A y) fun y=>?_]
  .grind
  .rw[k];by_cases c:y=P
   .rw[c,if_pos rfl];unfold fk;cases j6 (nd A).dr.ai.af P<;>rfl
   .rw[if_neg (by omega)];rfl
theorem amT.closed(d:Ad n E A P):anE n (amT n E A P):=by
 intro nd L a b m h i j l e;rcases h with h|h|h|h
 .have f:=h.2.2;by_cases c:a=A/\b<n/\E A b
  .obtain ⟨rfl,_,g⟩:=c;have:=f.w b j g;have hm:m=⟨2,1,0⟩/\L a b=[⟨2,1,0⟩]:=by grind
   rw[hm.1];exact h.token d j g hm.2
  .by_cases k:b=A/\a<n/\E A a
   .obtain ⟨rfl,_,g⟩:=k;have:=f.w a i g;have hm:m=⟨1,1,0⟩/\L a b=[⟨1,1,0⟩]:=by grind
    rw[hm.1];exact h.fork d i g hm.2
   .rw[f.o a b c k]at e;cases e
 .have f:=h.2.2;by_cases c:a=A/\b=P
  .obtain ⟨rfl,rfl⟩:=c;have:=f.m;rw[e]at this;cases this;exact h.new d
  .rw[f.o a b c]at e;cases e
 .have f:=h.2.2;by_cases c:a=P/\b=A
  .obtain ⟨rfl,rfl⟩:=c;have:=f.m;rw[e]at this;cases this;exact h.known d
  .rw[f.o a b c]at e;cases e
 .rw[h.2.o a b]at e;cases e
def Qu.closed:anE n (Qu n E):=by intro nd L a b m h d e f c;rw[h.2.o a b]at c;cases c
end
end
section
def amY(l:List aI):List (Nat×cY):=(l.filter fun x=>x.token).map fun x=>(x.peer.toNat,⟨2,1,0⟩)
def aor(x:aI)(r:List aI):amY (x::r)=if x.token=true then(x.peer.toNat,⟨2,1,0⟩)::amY r else amY r:=by unfold amY;rw[akN];split<;>rfl
def aoY{i:Nat}:∀ {l:List aI},(∀x∈l,x.aP=1/\0<=x.peer)->amX i l=(amY l).map fun p=>(⟨(i:Int),(p.1:Int),p.2⟩:cB)
 |[],_=>rfl
 |x::r,h=>by
  have a:=h x (by simp)
  have b:=aoY (i:=i) (l:=r) fun y c=>h y (by simp[c])
  have e:amX (i:Int) (x::r)=(if x.token=true then [⟨(i:Int),x.peer,⟨2,x.aP,0⟩⟩]else [])++amX i r:=rfl
  rw[e,b,aor,a.1]
  split
  .have:((x.peer.toNat:Nat):Int)=x.peer:=by omega
   simp[this]
  .rfl
def ao4{y:Nat}:∀ {l:List aI},(l.Pairwise fun x y=>x.peer<y.peer)->(∀x∈l,0<=x.peer)->(amY l).find? (fun p=>p.1=y)=(j6 l y).bind fun x=>if x.token=true then some (y,⟨2,1,0⟩)else none
 |[],_,_=>rfl
 |x::r,hp,h=>by
  have f:=h x (by simp)
  have e:=ahg.1 hp
  have a:=ao4 (y:=y) e.2 fun z b=>h z (by simp[b])
  rw[aor,am4]
  by_cases c:x.peer=y
  .rw[if_pos c]
   have hn:j6 r y=none:=by
    rw[anx]
    unfold cJ
    rw[aja]
    intro z b
    have:=e.1 z b
    simp;omega
   rw[hn]at a
   by_cases d:x.token=true
   .have:x.peer.toNat=y:=by omega
    simp[d,this]
   .rw[if_neg d,a]
    simp[d]
  .rw[if_neg c]
   have:x.peer.toNat≠y:=by omega
   split
   .rw[akh]
    simp[this,a]
   .exact a
def apb:∀ {l:List aI},(l.Pairwise fun x y=>x.peer<y.peer)->(∀x∈l,0<=x.peer)->(amY l).Pairwise fun x y=>x.1≠y.1
 |[],_,_=> .nil
 |x::r,hp,h=>by
  have b:=ahg.1 hp
  have c:=apb b.2 fun z a=>h z (by simp[a])
  rw[aor]
  split
  .refine ahg.2 ⟨fun p d=>?_,c⟩
   unfold amY at d
   obtain⟨z,a,rfl⟩:=aiK.1 d
   have e:=(ajH.1 a).1
   have:=b.1 z e
   have:=h x (by simp)
   simp only
   omega
  .exact c
def CA(L:LL)(a:Nat)(l:List (Nat×cY)):LL:=fun x y=>if x=a then(match l.find? fun p=>p.1=y with|some p=>[p.2]|none=>L x y)else L x y
section
variable{n A P:Nat}{E:Nat->Nat->Prop}{f f':Nat->Nat->Option Bool}{L L':LL}{nd:Nat->Nd}
theorem QuC.anU(d:Ad n E A P)(h:QuC n E f L)(g:∀x y,f' x y=if x=A/\y=P then some true else f x y)(o:∀y,y<n->E A y->f A y=some true/\L' A y=[]\/f A y=some false/\L' A y=[⟨2,1,0⟩])(l:∀x y, ¬(x=A/\y<n/\E A y)->L' x y=[]):HgC n E A P f' L':=by
 have q:=d.ne;have r:=d.lt;have s:=d.pn;refine⟨fun x y i a=>?_,fun x y b i a j m t=>?_,by rw[g,if_pos ⟨rfl,rfl⟩],fun y a k=>?_,fun x y j m=>l x y j⟩
 .rw[g];have:=h.e x y i a;grind
 .have:=h.p x y b i a;grind
 .have j:=o y a k;have hA:y≠A:=fun c=>d.ir A (c▸k);have u:y≠P:=fun c=>q (c▸k);have m:=l y A fun c=>hA c.1;have v:=h.p A y true (by omega) a;have w:=h.p A y false (by omega) a;rw[g,g,if_neg (by omega),if_neg (by omega)];grind
theorem Qu.begin(d:Ad n E A P)(h:Qu n E nd L):(cO (nd A) ⟨4,0,P,0,[]⟩).e=0/\∀v,jt (cO (nd A) ⟨4,0,P,0,[]⟩) v->
  ∃l:List (Nat×cY),v.out=l.map (fun p=>(⟨(A:Int),(p.1:Int),p.2⟩:cB))/\(l.Pairwise fun x y=>x.1≠y.1)/\(∀p∈l,p.1<n/\A≠p.1/\Vm p.2)/\amT n E A P (wl nd A v.n) (CA L A l):=by
 have⟨K,f⟩:=h
 have C:=d.ne
 have aj:=d.lt
 have M:=d.pn
 have hA:A<n:=by omega
 have D:=K A hA
 have N:fk nd A P=none:=by
  have:=f.e A P hA M
  cases c:fk nd A P with
  |none=>rfl
  |some b=>rw[c]at this;exact absurd (this.1 rfl) C
 have w:cJ (nd A).dr.ai.af (P:Int)=false:=by
  rw[<-anx]
  unfold fk at N
  simpa using N
 have g:=fun v=>apQ (v:=v) D (P:=(P:Int)) ⟨by omega,by omega⟩ w
 refine⟨by have⟨_,_,_,_,q,_⟩:=g ⟨nd A,[],[],0⟩;exact q,fun v X=>?_⟩
 have⟨u,F,G,_,_,Y⟩:=g v
 have O:∀y,y<n->y≠A->Nq (wl nd A v.n y) y n:=fun y m Z=>by
  unfold wl;rw[if_neg Z];exact K y m
 have aa:∀y:Nat,(j6 u.dr.ai.af y).map (fun s=>s.fork)=if y=P then some true else fk nd A y:=fun y=>by
  rw[G]
  by_cases c:y=P
  .rw[c,if_pos rfl,if_pos rfl];rfl
  .rw[if_neg (by omega),if_neg c];rfl
 have Q:(∀y:Nat,(j6 v.n.dr.ai.af y).map (fun s=>s.fork)=(j6 u.dr.ai.af y).map (fun s=>s.fork))->∀x y,fk (wl nd A v.n) x y=if x=A/\y=P then some true else fk nd x y:=fun hh x y=>by
  rw[anV (g:=fun y=>if y=P then some true else fk nd A y) fun y=>by rw[hh,aa]]
  grind
 have R:=F.sd
 have r:∀x∈u.dr.ai.af,x.aP=1/\0<=x.peer/\x.peer<n/\x.peer≠A:=fun x a=>by
  have⟨ab,_,b,c,_⟩:=F.ep x a
  exact⟨ab,b,c,F.ne x a⟩
 rcases Y X with⟨_,z,B,_,H⟩|⟨w1,z,B,_,H⟩
 .rw[aoY fun x a=>⟨(r x a).1,(r x a).2.1⟩]at z
  refine⟨amY u.dr.ai.af,z,apb R fun x a=>(r x a).2.1,fun p hp=>?_,.inl ⟨by unfold wl;rw[if_pos rfl];exact B,O,?_⟩⟩
  .unfold amY at hp
   obtain⟨x,a,rfl⟩:=aiK.1 hp
   have:=r x (ajH.1 a).1
   exact⟨by show x.peer.toNat<n;omega,by show A≠x.peer.toNat;omega,(by decide:(1:Int)<=2),(by decide:(2:Int)<=8),rfl,rfl⟩
  .have ad:∀y:Nat,(amY u.dr.ai.af).find? (fun p=>p.1=y)=(j6 u.dr.ai.af y).bind fun x=>if x.token=true then some (y,⟨2,1,0⟩)else none:=fun y=>ao4 R fun x a=>(r x a).2.1
   have S:∀x y,CA L A (amY u.dr.ai.af) x y=if x=A then(match(j6 u.dr.ai.af y).bind fun x=>if x.token=true then some ((y,⟨2,1,0⟩):Nat×cY)else none with|some p=>[p.2]|none=>[])else []:=fun x y=>by
    unfold CA
    rw[ad,f.o]
   refine f.anU d (Q fun y=>by rw[H];cases j6 u.dr.ai.af y with
    |none=>rfl
    |some s=>simp[(ann s).2.2.2.2.2.1]) (fun y m t=>?_) fun x y ae=>?_
   .have ag:y≠P:=fun c=>C (c▸t)
    have I:=(f.e A y hA m).2 t
    rw[S,if_pos rfl,G,if_neg (by omega)]
    have⟨b,i⟩:=Option.isSome_iff_exists.1 I
    have⟨s,j,T⟩:=anI i
    have ah:=D.sd s (anh j).1
    rw[j,i]
    unfold Qs at ah
    cases b
    .right
     have:s.token=true:=by grind
     simp[this]
    .left
     have:s.token=false:=by grind
     simp[this]
   .rw[S]
    split
    .rename_i c
     subst c
     rw[G]
     by_cases U:(P:Int)=y
     .rw[if_pos U];rfl
     .rw[if_neg U]
      cases w:j6 (nd x).dr.ai.af y with
      |none=>rfl
      |some s=>
       exfalso
       have hm:=anh w
       have ak:=D.k.ep s hm.1
       refine ae ⟨rfl,by omega,(f.e x y hA (by omega)).1 ?_⟩
       unfold fk
       rw[w];rfl
    .rfl
 .have V:=Q fun y=>by
   rw[H]
   cases j6 u.dr.ai.af y<;>rfl
  have W:∀y b,fk (wl nd A v.n) A y=some b->b=true:=fun y b i=>by
   have⟨s,j,T⟩:=anI i
   unfold wl at j
   rw[if_pos rfl]at j
   rw[<-T]
   exact(B.sd s (anh j).1).1
  have h4:HgC n E A P (fk (wl nd A v.n)) L:=f.anU d V (fun y m t=> .inl ⟨?_,f.o _ _⟩) fun x y _=>f.o _ _
  .refine ⟨[(P,⟨5,1,0⟩)],z,by simp,fun p hp=>?_,.inr (.inl ⟨by unfold wl;rw[if_pos rfl];exact B,O,h4.told d W fun x y=>?_⟩)⟩
   .simp only[akz]at hp
    subst hp
    exact⟨M,by simp only;omega,(by decide:(1:Int)<=5),(by decide:(5:Int)<=8),rfl,rfl⟩
   .unfold CA
    by_cases c:x=A
    .by_cases J:y=P
     .simp[c,J]
     .simp[c,ait J,J]
    .simp[c]
  .have ag:y≠P:=fun c=>C (c▸t)
   have I:=(f.e A y hA m).2 t
   have⟨b,i⟩:=Option.isSome_iff_exists.1 I
   have:=W y b (by rw[V,if_neg (by omega)];exact i)
   rw[i,this]
theorem amT.end(d:Ad n E A P)(h:amT n E A P nd L)(a:∀x y,x<n->y<n->x≠y->L x y=[]):Qu n (fun x y=>E x y\/x=A/\y=P\/x=P/\y=A) nd L:=by
 have t:=d.lt;have l:=d.pn;rcases h with h|h|h|h
 .exfalso
  have⟨b,u,g⟩:=h;have⟨s,i,p⟩:=b.mi;have⟨_,_,v,z,_⟩:=b.k.ep s i;have B:=b.k.ne s i;obtain⟨y,q⟩:∃y:Nat,s.peer=y:=⟨s.peer.toNat,by omega⟩;have o:=anN b.k.sd i;rw[q]at o;have j:fk nd A y=some false:=by unfold fk;rw[o, <-p];rfl
  have f:y<n:=by omega
  have r:y≠A:=by omega
  rcases(g.e A y (by omega) f).1 (by rw[j];rfl)with c|c
  .have:=g.w y f c;have C:=a A y (by omega) f (by omega);have D:=a y A f (by omega) r;grind
  .rw[c.2,g.fp]at j;cases j
 .have:=h.2.2.m;rw[a A P (by omega) l (by omega)]at this;cases this
 .have:=h.2.2.m;rw[a P A l (by omega) (by omega)]at this;cases this
 .exact h
end
end
section
def qa:Nat->(Nat->Nat)->Nat
 |0,_=>0
 |n+1,f=>qa n f+f n
def anJ{f g:Nat->Nat}:∀ {n:Nat},(∀x,x<n->f x=g x)->qa n f=qa n g
 |0,_=>rfl
 |n+1,h=>by
  unfold qa
  rw[anJ fun x a=>h x (by omega),h n (by omega)]
def an4{f g:Nat->Nat}{a v:Nat}:∀ {n:Nat},a<n->(∀x,g x=if x=a then v else f x)->qa n g+f a=qa n f+v
 |n+1,e,h=>by
  unfold qa
  by_cases c:a=n
  .have d:qa n g=qa n f:=anJ fun x i=>by rw[h,if_neg (by omega)]
   have b:=h n
   rw[if_pos c.symm]at b
   rw[c]
   omega
  .have d:=an4 (n:=n) (by omega) h
   have b:=h n
   rw[if_neg (ait c)]at b
   omega
def anP{f:Nat->Nat}{k:Nat}:∀ {n:Nat},(∀x,x<n->f x<=k)->qa n f<=n*k
 |0,_=>by simp[qa]
 |n+1,h=>by
  have a:=anP (n:=n) fun x b=>h x (by omega)
  have c:=h n (by omega)
  unfold qa
  rw[air]
  omega
def aoB{f:Nat->Nat}:∀ {n:Nat},qa n f=0->∀x,x<n->f x=0
 |n+1,h,x,a=>by
  unfold qa at h
  by_cases c:x=n
  .rw[c];omega
  .exact aoB (n:=n) (by omega) x (by omega)
def anf(n:Nat)(f:Nat->Nat->Nat):Nat:=qa n fun x=>qa n (f x)
def aoa{n a b v:Nat}{f g:Nat->Nat->Nat}(d:a<n)(i:b<n)(h:∀x y,g x y=if x=a/\y=b then v else f x y):anf n g+f a b=anf n f+v:=by
 have j:qa n (g a)+f a b=qa n (f a)+v:=an4 i fun y=>by rw[h];simp
 have k:=an4 (f:=fun x=>qa n (f x)) (g:=fun x=>qa n (g x)) (v:=qa n (g a)) d fun x=>by
  by_cases c:x=a
  .rw[if_pos c,c]
  .rw[if_neg c];exact anJ fun y _=>by rw[h,if_neg fun e=>c e.1]
 unfold anf;omega
def TR:List cY->Nat
 |[]=>0
 |m::r=>wt m+TR r
def rR(n:Nat)(L:LL)(s:Nat->Nat->Nat):Nat:=2*anf n (fun x y=>TR (L x y))+anf n s
def aqg(m:cY):1<=wt m:=by
 unfold wt;split
 .omega
 .split
  .omega
  .split<;>omega
section
variable{n a b:Nat}{s:Nat->Nat->Nat}{L:LL}{m:cY}
def api(c:a<n)(d:b<n)(h:a≠b)(k:Nat):anf n (GA s a b k)+s b a=anf n s+k:=by have j:=aoa (f:=s) (g:=fun x y=>if x=b/\y=a then 0 else s x y) d c fun x y=>rfl;have i:=aoa (f:=fun x y=>if x=b/\y=a then 0 else s x y) (g:=GA s a b k) (v:=s a b+k) c d fun x y=>rfl;rw[if_neg (fun e=>h e.1)]at i;omega
def apI(h:a<n)(d:b<n)(k:a≠b)(o:L a b=[m]):∀ {l:List (Nat×cY)},l.length<=1->(∀p∈l,p.1<n/\AI L a b [] b p.1=[]/\wt p.2<wt m)->rR n (CA (AI L a b []) b l) (GA s a b 1)+1<=rR n L s:=by
 intro l q hp;have r:=aoa (f:=fun x y=>TR (L x y)) (g:=fun x y=>TR (AI L a b [] x y)) (v:=0) h d fun x y=>by unfold AI;split<;>rfl
 simp only[o,TR]at r;have w:=api (s:=s) h d k 1;have z:=aqg m;unfold rR;match l,q,hp with
 |[],_,_=>
  have:CA (AI L a b []) b []=AI L a b []:=by
   funext x y
   unfold CA;split<;>rfl
  rw[this];omega
 |[(c,e)],_,hp=>
  have⟨i,j,t⟩:=hp (c,e) (by simp);simp only at i j t
  have u:=aoa (f:=fun x y=>TR (AI L a b [] x y)) (g:=fun x y=>TR (CA (AI L a b []) b [(c,e)] x y)) (v:=wt e) d i fun x y=>by
   unfold CA;by_cases c1:x=b
   .by_cases c2:y=c
    .simp[c1,c2,TR]
    .simp[c1,c2,ait c2]
   .simp[c1]
  simp only[j,TR]at u;omega
def ant.lay{S:(Nat->Nd)->LL->Prop}{d:Nat->Nd}(h:ant n S d L a b m):(fK (d b) a m).e=0/\∀v,jt (fK (d b) a m) v->∃l:List (Nat×cY),l.length<=1/\v.out=l.map (fun p=>(⟨(b:Int),(p.1:Int),p.2⟩:cB))/\(∀p∈l,p.1<n/\b≠p.1/\Vm p.2/\AI L a b [] b p.1=[]/\wt p.2<wt m)/\S (wl d b v.n) (CA (AI L a b []) b l):=by
 refine⟨h.1,fun v j=>?_⟩;rcases h.2 v j with⟨g,i⟩|⟨c,f,g,i,k,o,q,r,s⟩
 .refine ⟨[],by simp,g,by simp,?_⟩
  have:CA (AI L a b []) b []=AI L a b []:=by
   funext x y
   unfold CA;split<;>rfl
  rw[this];exact i
 .refine ⟨[(c,f)],by simp,r,by simpa using⟨g,i,k,o,q⟩,?_⟩
  have:CA (AI L a b []) b [(c,f)]=AI (AI L a b []) b c [f]:=by
   funext x y
   unfold CA;show _=if x=b/\y=c then [f]else AI L a b [] x y;by_cases c1:x=b
   .by_cases c2:y=c
    .simp[c1,c2]
    .simp[c1,c2,ait c2]
   .simp[c1]
  rw[this];exact s
end
abbrev Lf(K:Cl):LL:=fun x y=>(K.tr x y).left
abbrev Nf(K:Cl):Nat->Nd:=fun i=>K.nodes.getD i .zero
structure Cal(S:(Nat->Nd)->LL->Prop)(n:Nat)(G:Nat)(K:Cl)(s C:Nat->Nat->Nat)(T:Nat):Prop where
 l:ER K n s C
 hn:K.nodes.length=n
 S:S (Nf K) (Lf K)
 w:dL T K
 c:∀x y,C x y+rR n (Lf K) s<=G
 t:T+2*rR n (Lf K) s<=G
def apy{P:Pp}{s:Bool}{k:Int}(h:(P.jk s k).2=none):(P.jk s k).1.dR=P.dR:=by
 unfold Pp.jk at h|-;cases a:P.look s k with
 |none=>rfl
 |some b=>
  rw[a]at h;simp only at h|-;split
  .rename_i hc;rw[if_pos hc]at h;simp only at h|-;rw[h];rfl
  .rfl
def pw1:∀ {l:List (Nat×cY)},l.length<=1->l.Pairwise fun x y=>x.1≠y.1
 |[],_=> .nil
 |[p],_=>by simp
def aoS{K K':Cl}{b:Nat}{v:Nd}(a:b<K.nodes.length)(h:K'.nodes=K.nodes.set b v):Nf K'=wl (Nf K) b v:=by
 funext i
 unfold wl;show K'.nodes.getD i .zero=_;rw[h,ae5,List.getElem?_set];by_cases c:i=b
 .subst c;simp[a]
 .rw[if_neg (ait c),if_neg c];show _=K.nodes.getD i .zero;rw[ae5]
section
variable{S:(Nat->Nd)->LL->Prop}{K K':Cl}{n a b T G:Nat}{s C:Nat->Nat->Nat}{z:bx}
def Cal.C9(h:Cal S n G K s C T)(a:G<=800000000):∀x y,C x y<1000000000:=fun x y=>by have:=h.c x y;omega
def apS(hS:anE n S)(h:Cal S n G K s C T)(hG:G<=800000000)(E:a<n)(j:b<n)(e:a≠b)(hq:Qn K a b=[z])(J:∀x y,x≠a->x≠y->Qn K x y=[]){ev:List Ev}{ab:Int}(hc:K.Comes a b 0 K' ev ab):
  ∃t L T',Cal S n G K' t L T'/\(∀x y,x≠y->Qn K' x y=if x=a/\y=b then []else Qn K x y)/\(∀y,y≠b->t a y=s a y/\t y a=s y a/\Lf K' a y=Lf K a y)/\rR n (Lf K') t<=rR n (Lf K) s/\
   (rR n (Lf K') t=rR n (Lf K) s->(lF (jV z)).1.kind=2/\t=s/\Lf K'=Lf K/\s b a=0):=by
 have⟨r,ae,Y,M,r3,hr⟩:=aqH h.l (h.C9 hG) h.hn E j e hq (J b a (ait e) (ait e)) hc
 have N:b<K.nodes.length:=by rw[h.hn];exact j
 have O:r=((K.pipe b a).jk (cT b a) 0).1:=by rw[Y]
 have Z:dO r:=by rw[O];exact Dc (h.w.i.pipe b a) _ _
 have ht:=h.t
 have F:∀k y,y≠b->GA s a b k a y=s a y/\GA s a b k y a=s y a:=fun k y d=>by
  unfold GA
  rw[if_neg (fun c=>d c.2),if_neg (fun c=>e c.1),if_neg (fun c=>e c.2),if_neg (fun c=>d c.1)]
  exact⟨rfl,rfl⟩
 rcases hr with⟨m,A,m2,H,m4⟩|⟨m0,A,m2,H,m4⟩
 .have ⟨g1,g2⟩:=(hS _ _ a b m h.S E j e A).lay
  have⟨v,P,Q,_⟩:=m4 g1
  have⟨l,R,U,I,l4⟩:=g2 v P
  have hid:v.n.dr.ai.id=(b:Int):=by
   rw[wG.g _ _ _ _ P]
   show(K.nodes.getD b .zero).dr.ai.id=_
   rw[ae5,abM N]
   exact h.w.n.id b N
  have w1:dL (T+1) ((K.eR b a r).tell a b):=Nl (Ao (h.w.mono (by omega)) b a Z fun ad=>by
   rw[O]
   exact ai5 (HC _ _ _ _) (Nat.succ_le_succ (h.w.g _ _ _))) a b
  have t1:∀x y,(((K.eR b a r).tell a b).tr x y).left=AI (Lf K) a b [] x y:=fun x y=>by
   unfold Cl.tell
   rw[aod]
   unfold AI
   split
   .have:((K.eR b a r).tr a b).left=[m]:=A
    rw[if_neg (by rw[this];simp),this];rfl
   .rfl
  have B:((K.eR b a r).tell a b).nodes=K.nodes:=rfl
  have V:∀x y,x≠y->Qn ((K.eR b a r).tell a b) x y=if x=a/\y=b then []else Qn K x y:=M
  generalize(K.eR b a r).tell a b=K1 at w1 t1 B V H Q
  have qb:∀y,y≠b->Qn K1 b y=[]:=fun y d=>by
   rw[V b y (ait d),if_neg (fun c=>e c.1.symm)]
   exact J b y (ait e) (ait d)
  have⟨L,c1,c2,c3,c4,c5,W,c7⟩:=apa H (by rw[B];exact h.hn) j qb (v:=v.n) hid l (pw1 R) fun p hp=>by
    have⟨p1,p2,p3,p4,p5⟩:=I p hp
    exact⟨p1,p2,p3,by rw[t1];exact p4⟩
  rw[<-U]at c3 c4 c5 W c7
  have⟨w2,n2⟩:=aoM w1 (n:=v.n) (l:=v.out) P.sti.s (by rw[hid,B];omega) (by rw[U,aio];omega)
  generalize K1.take v.n v.out=K2 at c3 c4 c5 W c7 w2 n2 Q
  have aa:K2.nodes.length=n:=by rw[c4,aiP,B];exact h.hn
  have⟨D,f,f3⟩:=anH c3 j (fun y d=>by rw[(c5 b y (ait d)).1];exact qb y d) aa
  have w3:=(qT w2 b).1
  rw[<-Q]at D f f3 w3
  have o:Lf K'=CA (AI (Lf K) a b []) b l:=by
   funext x y
   show(K'.tr x y).left=_
   rw[f.l,W]
   unfold CA
   rw[t1]
   all_goals rfl
  have X:Nf K'=wl (Nf K) b v.n:=aoS N (by rw[f.nd,c4,B])
  have hp:=apI (s:=s) E j e A R fun p hp=>⟨(I p hp).1,(I p hp).2.2.2.1,(I p hp).2.2.2.2⟩
  rw[<-o]at hp
  have af:v.out.length<=1:=by rw[U,aio];exact R
  refine⟨GA s a b 1,L,T+2,⟨D,by rw[f.nd];exact aa,by rw[X,o];exact l4,w3.mono (by omega),fun x y=>?_,by omega⟩,fun x y u=>?_,fun y d=>⟨(F 1 y d).1,(F 1 y d).2,?_⟩,by omega,fun hh=>by omega⟩
  .have:=(c1 x y).1
   have:=h.c x y
   omega
  .rw[f.q x y u,(c5 x y u).1,V x y u]
  .rw[o]
   unfold CA AI
   rw[if_neg e,if_neg (fun c=>d c.2)]
 .have hg:r.dR=(K.pipe b a).dR:=by rw[O];exact apy (by rw[Y];exact m0)
  have w1:dL T (K.eR b a r):=Ao h.w b a Z fun ad=>by rw[hg];exact h.w.g _ _ _
  have⟨D,f,f3⟩:=anH m2 j (fun y d=>by
   rw[M b y (ait d),if_neg (fun c=>e c.1.symm)]
   exact J b y (ait e) (ait d)) h.hn
  have w2:=(qT w1 b).1
  rw[<-H]at D f f3 w2
  have o:Lf K'=Lf K:=by
   funext x y
   exact f.l x y
  have X:Nf K'=Nf K:=by
   show(fun i=>K'.nodes.getD i .zero)=_
   rw[f.nd];rfl
  have ag:=api (s:=s) E j e 0
  have hp:rR n (Lf K') (GA s a b 0)+s b a=rR n (Lf K) s:=by
   rw[o];unfold rR;omega
  refine⟨GA s a b 0,C,T,⟨D,by rw[f.nd];exact h.hn,by rw[X,o];exact h.S,w2,fun x y=>?_,by omega⟩,fun x y u=>?_,fun y d=>⟨(F 0 y d).1,(F 0 y d).2,by rw[o]⟩,by omega,fun hh=>⟨A,?_,o,by omega⟩⟩
  .have:=h.c x y;omega
  .rw[f.q x y u,M x y u]
  .have h0:s b a=0:=by omega
   funext x y
   unfold GA
   split
   .rename_i c;rw[c.1,c.2];rfl
   .split
    .rename_i c;rw[c.1,c.2,h0]
    .rfl
end
end
section
section
variable{S:(Nat->Nd)->LL->Prop}{K K':Cl}{n a y T G:Nat}{s C s0:Nat->Nat->Nat}{L0:LL}
def Pre(K:Cl)(s:Nat->Nat->Nat)(a z:Nat):Prop:=(∃f,Qn K a z=[f]/\(Lf K a z≠ []->s a z=0->(lF (jV f)).1.kind=1))\/Qn K a z=[]/\s z a=0/\(Lf K a z≠ []->0<s a z)
structure Trn(S:(Nat->Nd)->LL->Prop)(n G:Nat)(L0:LL)(s0:Nat->Nat->Nat)(a:Nat)(K:Cl)(s C:Nat->Nat->Nat)(T:Nat):Prop where
 qw:Cal S n G K s C T
 q:∀x z,x≠z->Qn K x z=[]
 le:rR n (Lf K) s<=rR n L0 s0
 eq:rR n (Lf K) s=rR n L0 s0->s=s0/\Lf K=L0/\∀x z,x<a->z<n->z≠x->s0 z x=0/\(L0 x z≠ []->0<s0 x z)
structure Mid(S:(Nat->Nd)->LL->Prop)(n G:Nat)(L0:LL)(s0:Nat->Nat->Nat)(a y:Nat)(K:Cl)(s C:Nat->Nat->Nat)(T:Nat):Prop where
 qw:Cal S n G K s C T
 q0:∀x z,x≠a->x≠z->Qn K x z=[]
 q1:∀z,z≠a->z<y\/n<=z->Qn K a z=[]
 pre:∀z,y<=z->z<n->z≠a->Pre K s a z
 le:rR n (Lf K) s<=rR n L0 s0
 eq:rR n (Lf K) s=rR n L0 s0->s=s0/\Lf K=L0/\∀x z,x<a\/x=a/\z<y->z<n->z≠x->s0 z x=0/\(L0 x z≠ []->0<s0 x z)
def aot{b:Nat}(h:a=b\/Qn K a b=[]){ev:List Ev}{e:Int}(hc:K.Comes a b 0 K' ev e):K'=K:=by
 have f:K.look a b 0=none:=by
  unfold Cl.look;split
  .rename_i g;have d:a≠b:=fun c=>g.2.2 (by rw[c]);rcases h with h|h
   .exact absurd h d
   .show (K.pipe b a).look (cT b a) 0=none;unfold Pp.look dV;have:(K.pipe b a).q (!cT b a)=[]:=by rw[<-anq (ait d),anj];exact h
    rw[this];rfl
  .rfl
 unfold Cl.Comes at hc;rw[if_pos f]at hc;exact hc.1
def Mid.idle(h:Mid S n G L0 s0 a (y+1) K s C T){ev:List Ev}{e:Int}(hc:K.Comes a y 0 K' ev e):K'=K:=by
 refine aot ?_ hc;by_cases c:a=y
 .exact .inl c
 .exact .inr (h.q1 y (ait c) (.inl (by omega)))
def Mid.jk(D:anE n S)(E:G<=800000000)(h:Mid S n G L0 s0 a y K s C T)(F:a<n)(v:y<n){ev:List Ev}{e:Int}(hc:K.Comes a y 0 K' ev e):∃o p q,Mid S n G L0 s0 a (y+1) K' o p q:=by
 by_cases c:y=a
 .have:=aot (.inl c.symm) hc;subst this;refine⟨s,C,T,h.qw,h.q0,fun z b w=>h.q1 z b (by omega),fun z b=>h.pre z (by omega),h.le,fun l=>?_⟩;have⟨d,g,i⟩:=h.eq l;exact⟨d,g,fun x z j b k=>i x z (by omega) b k⟩
 .have V:=h.le;rcases h.pre y (ad3 _) v c with⟨f,m,r⟩|⟨m,r,f3⟩
  .have ⟨o,p,q,H,t,I,W,J⟩:=apS D h.qw E F v (ait c) m h.q0 hc;refine⟨o,p,q,H,fun x z j b=>?_,fun z b w=>?_,fun z b L A=>?_,by omega,fun l=>?_⟩
   .rw[t x z b,if_neg (fun e=>j e.1)];exact h.q0 x z j b
   .rw[t a z (ait b)];split
    .rfl
    .rename_i c2;exact h.q1 z b (by omega)
   .have B:z≠y:=by omega
    have⟨M,N,O⟩:=I z B;have:=h.pre z (by omega) L A;unfold Pre at this|-;rw[t a z (ait A),if_neg (fun e=>B e.2),M,N,O];exact this
   .have ⟨X,P,Q,R⟩:=J (by omega);have⟨d,g,i⟩:=h.eq (by omega);refine⟨by rw[P,d],by rw[Q,g],fun x z j b k=>?_⟩;by_cases c2:x=a/\z=y
    .obtain ⟨rfl,rfl⟩:=c2;rw[<-d, <-g];refine⟨R,fun U=>?_⟩;rcases akZ (s x z)with u|u
     .have:=r U u;omega
     .exact u
    .exact i x z (by omega) b k
  .have:=aot (.inr m) hc;subst this;refine⟨s,C,T,h.qw,h.q0,fun z b w=>?_,fun z b=>h.pre z (by omega),h.le,fun l=>?_⟩
   .by_cases c2:z=y
    .rw[c2];exact m
    .exact h.q1 z b (by omega)
   .have ⟨d,g,i⟩:=h.eq l;refine⟨d,g,fun x z j b k=>?_⟩;by_cases c2:x=a/\z=y
    .obtain ⟨rfl,rfl⟩:=c2;rw[<-d, <-g];exact⟨r,f3⟩
    .exact i x z (by omega) b k
def Trn.go(O:G<=800000000)(h:Trn S n G L0 s0 a K s C T)(H:a<n):Mid S n G L0 s0 a 0 (K.goes a).1 s C T:=by
 have hn:=h.qw.hn;have hth:K.there (a:Int):=by show(0:Int)<=(a:Int)/\(a:Int)<K.nodes.length;omega
 have P:(K.goes a).1=(Aq a (others K.nodes.length a) (K.flush a) 0).1:=by unfold Cl.goes;rw[if_neg (by simpa using hth)];rfl
 have⟨Q,e,R⟩:=anH h.qw.l H (fun b p=>h.q a b (ait p)) hn;have w1:=(qT h.qw.w a).1;have w2:=(Jy a (others K.nodes.length a) (K.flush a,0) w1).1;rw[<-wY]at w2;have⟨D,E,r,u,v⟩:=ao5 (h.qw.C9 O) H (others K.nodes.length a) (K.flush a) 0 Q (fun b p=>by rw[hn]at p;have⟨U,k⟩:=anK.1 p;exact⟨U,ait k,by rw[e.q a b (ait k)];exact h.q a b (ait k),by rw[e.q b a k];exact h.q b a k⟩) (List.nodup_range.filter _)
 rw[<-P]at w2 D E r u v;rw[hn]at u v;generalize(K.goes a).1=m at w2 D E r u v
 have g:Lf m=Lf K:=by
  funext x y
  show(m.tr x y).left=_;rw[E];exact e.l x y
 have V:Nf m=Nf K:=by show(fun i=>m.nodes.getD i .zero)=_;rw[r,e.nd]
 have I:∀x z,x≠z-> ¬(x=a/\z∈others n a)->Qn m x z=[]:=fun x z j hc=>by rw[(u x z j hc).1,e.q x z j];exact h.q x z j
 refine⟨⟨D,by rw[r,e.nd];exact hn,by rw[V,g];exact h.qw.S,w2,by rw[g];exact h.qw.c,by rw[g];exact h.qw.t⟩,fun x z j d=>I x z d fun c=>j c.1,fun z d ab=>I a z (ait d) fun c=>?_,fun z _ d J=>?_,by rw[g];exact h.le,fun L=>?_⟩
 .have:=(anK.1 c.2).1;omega
 .have ⟨j1,j2⟩:=v z (anK.2 ⟨d,J⟩);have M:Lf K a z≠ []->s a z=0->((K.flush a).tr a z).bN=1:=fun o A=>R z d J o A;unfold Pre;rw[g];rcases j1 with⟨f,B⟩|⟨B,W,u2⟩
  .refine .inl ⟨f,B,fun o A=>?_⟩;have⟨z',N,X⟩:=j2 (M o A) A;rw[B]at N;cases N;exact X
  .refine .inr ⟨B,W,fun o=>?_⟩;rcases akZ (s a z)with F|F
   .have:=M o F;omega
   .exact F
 .rw[g]at L|-;have⟨Y,Z,e3⟩:=h.eq L;exact⟨Y,Z,fun x z j d aa=>e3 x z (by omega) d aa⟩
def Mid.fin(h:Mid S n G L0 s0 a n K s C T):Trn S n G L0 s0 (a+1) K s C T:=by
 refine⟨h.qw,fun x z b=>?_,h.le,fun d=>?_⟩
 .by_cases c:x=a
  .rw[c]at b|-;exact h.q1 z (ait b) (by omega)
  .exact h.q0 x z c b
 .have ⟨e,f,g⟩:=h.eq d;exact⟨e,f,fun x z b i j=>g x z (by omega) i j⟩
structure DD(S:(Nat->Nd)->LL->Prop)(n G:Nat)(K:Cl)(s C:Nat->Nat->Nat)(T:Nat):Prop where
 qw:Cal S n G K s C T
 q:∀x z,x≠z->Qn K x z=[]
def DD.begin(h:DD S n G K s C T):Trn S n G (Lf K) s 0 K s C T:=⟨h.qw,h.q,ad3 _,fun _=>⟨rfl,rfl,fun x z a=>absurd a (by omega)⟩⟩
def Trn.fin(h:Trn S n G L0 s0 n K s C T):DD S n G K s C T/\(rR n (Lf K) s<rR n L0 s0\/∀x y,x<n->y<n->x≠y->Lf K x y=[]):=by
 refine⟨⟨h.qw,h.q⟩,?_⟩;have j:=h.le;by_cases c:rR n (Lf K) s=rR n L0 s0
 .have ⟨k,f,a⟩:=h.eq c;refine .inr fun x y b d e=>?_;rw[f];have⟨l,g⟩:=a x y b d (ait e);have⟨o,p⟩:=a y x d b e;cases i:L0 x y with
  |nil=>rfl
  |cons m r=>have:=g (by rw[i];simp);omega
 .exact .inl (by omega)
end
end
section
def anA{f:Nat->Nat}{n:Nat}(h:∀x,x<n->f x=0):qa n f=0:=by have:=anP (k:=0) fun x a=>aj8 (h x a);omega
def apK(m:cY):wt m<=4:=by
 unfold wt;split
 .omega
 .split
  .omega
  .split<;>omega
def aqP{n A:Nat}{L:LL}{l:List (Nat×cY)}(a:∀x y,L x y=[])(hA:A<n):anf n (fun x y=>TR (CA L A l x y))<=4*n:=by
 have b:qa n (fun y=>TR (CA L A l A y))<=n*4:=anP fun y _=>by
  unfold CA;rw[if_pos rfl];split
  .have:=apK (‹Nat×cY› :Nat×cY).2;simp only[TR];omega
  .rw[a];simp[TR]
 have d:=an4 (f:=fun _=>0) (g:=fun x=>qa n fun y=>TR (CA L A l x y)) (v:=qa n (fun y=>TR (CA L A l A y))) hA fun x=>by
  by_cases c:x=A
  .rw[if_pos c,c]
  .rw[if_neg c];refine anA fun y _=>?_;unfold CA;rw[if_neg c,a];rfl
 have e:qa n (fun _=>0)=0:=anA fun _ _=>rfl;show(qa n fun x=>qa n fun y=>TR (CA L A l x y))<=4*n;omega
def Qu.ext{n:Nat}{E a:Nat->Nat->Prop}{b:Nat->Nd}{L:LL}(h:Qu n E b L)(f:∀x y,x<n->y<n->(E x y↔a x y)):Qu n a b L:=⟨h.1,fun x y c d=>(h.2.e x y c d).trans (f x y c d),h.2.p,h.2.o⟩
def aoq{n:Nd}{e:Int}(a:e≠0):((bg n).fail e).e≠0:=a
section
variable{K K':Cl}{n T G:Nat}{E:Nat->Nat->Prop}{s C:Nat->Nat->Nat}{a p e:Int}{ev:List Ev}
def DD.flush{S:(Nat->Nd)->LL->Prop}(h:DD S n G K s C T){x:Nat}(f:x<n):DD S n G (K.flush x) s C T/\Lf (K.flush x)=Lf K:=by
 have⟨g,a,m⟩:=anH h.qw.l f (fun b j=>h.q x b (ait j)) h.qw.hn;have w1:=(qT h.qw.w x).1
 have d:Lf (K.flush x)=Lf K:=by
  funext x y
  exact a.l x y
 have k:Nf (K.flush x)=Nf K:=by show(fun i=>(K.flush x).nodes.getD i .zero)=_;rw[a.nd]
 exact⟨⟨⟨g,by rw[a.nd];exact h.qw.hn,by rw[k,d];exact h.qw.S,w1,by rw[d];exact h.qw.c,by rw[d];exact h.qw.t⟩,fun x y e=>by rw[a.q x y e];exact h.q x y e⟩,d⟩
def apx(h:DD (Qu n E) n G K s C T)(hG:G<=800000000)(Q:∀x y,E x y->E y x)(R:∀x, ¬E x x)(b:K.bP a ⟨4,0,p,0,[]⟩ K' ev e):
  (∃A P:Nat,a=A/\p=P/\Ad n E A P/\e=0/\∃m U,DD (amT n E A P) n (G+9010+16*n) K' s m U/\rR n (Lf K') s<=rR n (Lf K) s+8*n)\/
  ((¬ ∃A P:Nat,a=A/\p=P/\Ad n E A P)/\e≠0/\DD (Qu n E) n G K' s C T/\Lf K'=Lf K):=by
 have hn:=h.qw.hn
 have V:=Lm wG h.qw.w (by have:=h.qw.t;omega) b
 unfold Cl.bP at b
 by_cases f:¬K.there a\/((⟨4,0,p,0,[]⟩:Act).kind=4/\ ¬K.there (⟨4,0,p,0,[]⟩:Act).peer)
 .rw[if_pos f]at b
  obtain⟨rfl,_,rfl⟩:=b
  refine .inr ⟨?_,by decide,h,rfl⟩
  rintro⟨A,P,rfl,rfl,d⟩
  have:=d.lt
  have:=d.pn
  rcases f with f|f
  .exact f ⟨by omega,by omega⟩
  .exact f.2 ⟨by show(0:Int)<=(P:Int);omega,by show(P:Int)<K'.nodes.length;omega⟩
 rw[if_neg f]at b
 have t1:K.there a:=akp fun c=>f (.inl c)
 have t2:K.there p:=akp fun c=>f (.inr ⟨rfl,c⟩)
 obtain⟨A,rfl⟩:∃A:Nat,a=A:=⟨a.toNat,by have:=t1.1;omega⟩
 obtain⟨P,rfl⟩:∃P:Nat,p=P:=⟨p.toNat,by have:=t2.1;omega⟩
 have hA:A<n:=by have:=t1.2;omega
 have B:P<n:=by have:=t2.2;omega
 simp only[ais]at b
 have⟨W,r⟩:=h.qw.S
 have X:=W A hA
 by_cases d:A<P/\ ¬E A P
 .have g:Ad n E A P:=⟨d.1,B,Q,d.2,R⟩
  have⟨D,Y⟩:=Qu.begin g h.qw.S
  change (cO (K.nodes.getD A .zero) ⟨4,0,P,0,[]⟩).e=0 at D
  rw[if_neg (by rw[D];simp)]at b
  have⟨v,F,Z,v3,v4⟩:=b
  have⟨l,l1,l2,u,l4⟩:=Y v F
  have z:A<K.nodes.length:=by omega
  have hid:v.n.dr.ai.id=(A:Int):=by
   rw[wG.a _ _ _ F,ae5,abM z]
   exact h.qw.w.n.id A z
  have⟨m,c1,c2,c3,c4,c5,H,c7⟩:=apa h.qw.l hn hA (fun y hy=>h.q A y (ait hy)) (v:=v.n) hid l l2 fun p hp=>⟨(u p hp).1,(u p hp).2.1,(u p hp).2.2,r.o _ _⟩
  rw[<-l1, <-Z]at c3 c4 c5 H c7
  have I:Lf K'=CA (Lf K) A l:=by
   funext x y
   show(K'.tr x y).left=_
   rw[H]
   rfl
  have hN:Nf K'=wl (Nf K) A v.n:=aoS z c4
  have hp:rR n (Lf K') s<=rR n (Lf K) s+8*n:=by
   have:=aqP (L:=Lf K) (l:=l) r.o hA
   rw[I]
   unfold rR
   omega
  refine .inl ⟨A,P,rfl,rfl,g,v4,m,T+9000,⟨⟨c3,by rw[c4,aiP];exact hn,by rw[hN,I];exact l4,V.1,fun x y=>?_,?_⟩,fun x y J=>by rw[(c5 x y J).1];exact h.q x y J⟩,hp⟩
  .have:=(c1 x y).1
   have:=h.qw.c x y
   omega
  .have:=h.qw.t
   omega
 .have aa:¬ ∃i j:Nat,(A:Int)=i/\(P:Int)=j/\Ad n E i j:=by
   rintro⟨i,j,e1,e2,g⟩
   have ab:i=A:=by omega
   have ad:j=P:=by omega
   subst ab ad
   exact d ⟨g.lt,g.ne⟩
  have M:(cO (K.nodes.getD A .zero) ⟨4,0,P,0,[]⟩).e≠0:=by
   have N:Nq (K.nodes.getD A .zero) A n:=X
   have hid:=N.k.id
   unfold cO
   rw[if_neg (by simp),if_neg (by simp),if_neg (by simp),if_neg (by simp),if_pos rfl,if_pos N.ok]
   by_cases c1:A<P
   .have hE:E A P:=akp fun c=>d ⟨c1,c⟩
    have O:=(r.e A P hA B).2 hE
    split
    .exact aoq (by decide)
    .rw[if_pos]
     .exact aoq (by decide)
     .rw[am3]
      unfold fk at O
      simpa using O
   .rw[if_pos]
    .exact aoq (by decide)
    .have:¬((P:Int)>(K.nodes.getD A .zero).dr.ai.id):=by omega
     show(decide ((P:Int)>(K.nodes.getD A .zero).dr.ai.id)&&decide ((P:Int)<64))=false
     rw[decide_eq_false this]
     rfl
  rw[if_pos M]at b
  obtain⟨rfl,_,rfl⟩:=b
  exact .inr ⟨aa,M,(h.flush hA).1,(h.flush hA).2⟩
end
end
def Eg(g:Gr)(x y:Nat):Prop:=(y:Int)∈ec g x
def Eg.sy{g:Gr}{n:Nat}(h:qI g n){x y:Nat}(b:Eg g x y):Eg g y x:=by unfold Eg at*;rw[h.m]at*;have⟨e,a,c⟩:=b;have:=h.e e a;exact⟨e,a,by omega⟩
def Eg.ir{g:Gr}{n:Nat}(h:qI g n)(x:Nat):¬Eg g x x:=by unfold Eg;rw[h.m];rintro⟨e,a,b⟩;have:=h.e e a;omega
def aow(c:List Int)(i p:Int):∀l:List Int,j6 (l.map (io c i)) p=if p∈l then some (io c i p)else none
 |[]=>by simp[j6]
 |a::l=>by
  have b:=aow c i p l
  rw[ag9,am4,b]
  have:(io c i a).peer=a:=rfl
  rw[this]
  by_cases c1:a=p
  .simp[c1]
  .simp[c1,ait c1]
def apP{g:Gr}{n:Nat}(j:qI g n)(hn:n<=64)(c:List Int){i:Nat}(k:i<n):Nq (iD g c i) i n:=by
 have o:=F8 j k;have hp:=QN (j.s i);have m:=(HK j hn c k).1
 have r:dC (pP g c i)=true:=by
  cases e:dC (pP g c i)with
  |true=>rfl
  |false=>
   exfalso
   unfold dm at m;have:(iD g c i).dr=pP g c i:=rfl;rw[this,e]at m;simp at m
 have f:(iD g c i).dr.ai.af=(ec g i).map (io c i):=rfl;have t:=PP c i (ec g i) (-1) hp fun b h=>by have:=o b h;omega
 refine⟨⟨⟨r,rfl,rfl,rfl,rfl,fun x d=>?_⟩,rfl,k,hn,rfl,t,fun x d=>?_,fun p hp=>?_⟩,rfl,rfl,fun x d=>?_⟩
 .rw[f]at d;obtain⟨b,h,rfl⟩:=aiK.1 d;simp[io]
 .rw[f]at d;obtain⟨b,h,rfl⟩:=aiK.1 d;have q:=o b h;refine⟨rfl,L6 c i b _ h,q.1,q.2.1,?_,.inl rfl⟩;simp only[io];cases decide (bD c ↑i>bD c b)<;>simp
 .rw[f, <-anx,aow]at hp;have u:p∉ec g i:=fun e=>by rw[if_pos e]at hp;cases hp
  have v:∀l:List Int,p∉l->gR ((l.map (io c i)).map fun x=>⟨x.peer,x.aP⟩) p=0:=fun l=>by
   induction l with
   |nil=>intro _;rfl
   |cons a l w=>intro e;simp only[aeM,not_or]at e;simp only[ag9,gR,w e.2];rw[if_neg (show ¬(io c i a).peer=p from ait e.1)]
  exact v _ u
 .rw[f]at d;obtain⟨b,h,rfl⟩:=aiK.1 d;unfold Qs io;cases decide (bD c ↑i>bD c b)<;>simp
def aql{g:Gr}(k:fa g=true){c:List Int}(r:mZ)(hp:∀e∈g.bw,bD c e.a≠bD c e.b):Qu g.n.toNat (Eg g) (Nf (kM g c r)) (Lf (kM g c r)):=by
 have h:=vX k;have⟨n,hn⟩:=eg g.n.toNat;rw[hn]at h|-;have u:n<=64:=by have:=(show g.n<=64 by unfold fa at k;simp at k;omega);omega
 have q:∀i,i<n->Nf (kM g c r) i=iD g c i:=fun i v=>by show((aiZ g.n.toNat).map (iD g c)).getD i .zero=_;rw[hn,ae5];simp[v]
 have l:∀x y,x<n->fk (Nf (kM g c r)) x y=if(y:Int)∈ec g x then some (decide (bD c x>bD c y))else none:=fun x y d=>by unfold fk;rw[q x d];show(j6 ((ec g x).map (io c x)) y).map _=_;rw[aow];split<;>rfl
 refine⟨fun x d=>by rw[q x d];exact apP h u c d,fun x y d s=>?_,fun x y b d s f=>?_,fun x y=>rfl⟩
 .rw[l x y d];unfold Eg;split<;>simp_all
 .rw[l x y d]at f;rw[l y x s];by_cases j:(y:Int)∈ec g x
  .have w:(x:Int)∈ec g y:=Eg.sy h j;rw[if_pos j]at f;rw[if_pos w]
   have:bD c x≠bD c y:=by
    have⟨e,z,A⟩:=(h.m _ _).1 j;have:=hp e z;rcases A with⟨o,p⟩|⟨_,o,p⟩
    .rw[o,p];exact this
    .rw[o,p];exact ait this
   cases f;congr 1
   by_cases t:bD c x>bD c y
   .have:¬(bD c y>bD c x):=by omega
    simp[t,this]
   .have:bD c y>bD c x:=by omega
    simp[t,this]
  .rw[if_neg j]at f;cases f
def ap0(g:Gr)(c:List Int){r:mZ}(f:1<=r.fy)(i:8<=r.room)(n:Nat):ER (kM g c r) n (fun _ _=>0) (fun _ _=>0):=by
 have d:1<=(oz 1 0 r.win r.fy r.wait).win:=by unfold oz eB;simp only;omega
 have e:1<=(oz 1 0 r.win r.fy r.wait).room:=by unfold oz eB;simp only;omega
 refine⟨fun a b=>?_,fun a b j k l=>⟨rfl,d,e,by simp[kM],by simp[kM],by simp[kM],fun h=>absurd h (by omega),rfl,rfl,0,0,rfl,rfl,rfl,rfl,by simp[kM],by simp[kM],.inl ⟨rfl,rfl⟩⟩⟩;show 8<=(eB r.room 0 1000).toNat;unfold eB;omega
def aqn{g:Gr}(d:fa g=true){c:List Int}{r:mZ}(hp:∀e∈g.bw,bD c e.a≠bD c e.b)(f:1<=r.fy)(h:8<=r.room):DD (Qu g.n.toNat (Eg g)) g.n.toNat 0 (kM g c r) (fun _ _=>0) (fun _ _=>0) 0/\rR g.n.toNat (Lf (kM g c r)) (fun _ _=>0)=0:=by
 have i:∀n,anf n (fun _ _=>0)=0:=fun n=>anA fun _ _=>anA fun _ _=>rfl;have j:rR g.n.toNat (Lf (kM g c r)) (fun _ _=>0)=0:=by have:(fun x y=>TR (Lf (kM g c r) x y))=fun _ _=>0:=rfl;unfold rR;rw[this,i]
 exact⟨⟨⟨ap0 g c f h _,by simp[kM],aql d r hp,Yc d c r,fun _ _=>by omega,by omega⟩,fun _ _ _=>rfl⟩,j⟩
section
def ani(a b:Int)(e:Edge):Bool:=decide (e.a=a)&&decide (e.b=b)&&decide (a<=b)||decide (e.a=b)&&decide (e.b=a)&&decide (b<a)
def ES(g:Gr)(a b:Int):Bool:=g.bw.any (ani a b)
def s8(x:Edge):List Edge->List Edge
 |[]=>[x]
 |e::r=>if nX x e=true then x::e::r else e::s8 x r
def anr(g:Gr)(a b:Int):Bool:=decide (0<=a)&&decide (a<g.n)&&decide (0<=b)&&decide (b<g.n)&&decide (a≠b)
def amQ(g:Gr)(a b:Int):Gr×Int:=
 if fa g=false then(⟨0,[]⟩,30)
 else if anr g a b=false then(⟨0,[]⟩,31)
 else if ES g a b=true then(⟨0,[]⟩,32)
 else if g.bw.length=400 then(⟨0,[]⟩,30)
 else(⟨g.n,s8 ⟨min a b,max a b⟩ g.bw⟩,0)
theorem anO{x e:Edge}:∀ {l:List Edge},e∈s8 x l↔e=x\/e∈l
 |[]=>by simp[s8]
 |y::r=>by
  have a:=@anO x e r
  unfold s8
  split
  .simp
  .simp only[aeM,a]
   grind
def anM{x:Edge}:∀ {l:List Edge},(s8 x l).length=l.length+1
 |[]=>rfl
 |y::r=>by
  have a:=@anM x r
  unfold s8
  split
  .rfl
  .simp[a]
def aqU{x y:Edge}(h:nX x y=false)(hn:x≠y):nX y x=true:=by have⟨a,b⟩:=x;have⟨c,d⟩:=y;simp only[nX,ne_eq,Edge.mk.injEq,aiX,aki,decide_eq_false_iff_not,ai9,abR,decide_eq_true_eq]at*;omega
def aob{x:Edge}{r:List Edge}:uY (x::r)=true↔ (∀y,r.head?=some y->nX x y=true)/\uY r=true:=by
 cases r with
 |nil=>simp[uY]
 |cons y r=>rw[uY];simp
def aoR{x:Edge}:∀ {l:List Edge},uY l=true->x∉l->uY (s8 x l)=true
 |[],_,_=>rfl
 |e::r,h,b=>by
  simp only[aeM,not_or]at b
  have d:=aob.1 h
  have g:=aoR d.2 b.2
  unfold s8
  split
  .rename_i c
   exact aob.2 ⟨fun y a=>by cases a;exact c,h⟩
  .rename_i c
   have f:nX e x=true:=aqU (by simpa using c) b.1
   refine aob.2 ⟨fun y a=>?_,g⟩
   cases r with
   |nil=>cases a;exact f
   |cons z r=>
    unfold s8 at a
    split at a
    .cases a;exact f
    .cases a;exact d.1 _ rfl
def apf{n:Int}(hn:n<=5):∀ {l:List Edge},uY l=true->(∀e∈l,0<=e.a/\e.a<e.b/\e.b<n)->(l.length:Int)<=25/\∀y,l.head?=some y->(l.length:Int)<=25-(5*y.a+y.b)
 |[],_,_=>by simp
 |e::r,h,c=>by
  have f:=aob.1 h
  have⟨k,g⟩:=apf hn f.2 fun y d=>c y (by simp[d])
  have m:=c e (by simp)
  have i:((e::r).length:Int)<=25-(5*e.a+e.b):=by
   rw[aip]
   cases r with
   |nil=>simp;omega
   |cons z r=>
    have j:=f.1 z rfl
    have o:=g z rfl
    have p:=c z (by simp)
    simp only[nX,ai9,abR,decide_eq_true_eq]at j
    omega
  exact⟨by omega,fun y d=>by cases d;exact i⟩
section
variable{g:Gr}{n A P:Nat}
def an1(d:qI g n){a b:Int}(h:a≠b):ES g a b=true↔b∈ec g a:=by
 unfold ES;rw[d.m,akq];constructor
 .rintro⟨e,c,f⟩;have:=d.e e c;simp only[ani,ai9,abR,decide_eq_true_eq]at f;exact⟨e,c,by omega⟩
 .rintro⟨e,c,f⟩;have:=d.e e c;refine⟨e,c,?_⟩;simp only[ani,ai9,abR,decide_eq_true_eq];omega
def apT(a:fa g=true)(c:g.n<=5):g.bw.length<=25/\uY g.bw=true:=by
 have d:=vX a;have b:uY g.bw=true:=by unfold fa at a;simp only[abR]at a;exact a.2
 have:=(apf c b d.e).1;exact⟨by omega,b⟩
def apV(h:fa g=true)(p:g.n<=5)(hn:g.n.toNat=n)(d:Ad n (Eg g) A P):∃k,amQ g A P=(k,0)/\fa k=true/\k.n=g.n/\∀x y:Nat,Eg k x y↔Eg g x y\/x=A/\y=P\/x=P/\y=A:=by
 have j:=vX h;rw[hn]at j;have z:=j.n;have B:=d.lt;have C:=d.pn;have⟨D,q⟩:=apT h p;have r:min (A:Int) (P:Int)=A:=by omega
 have s:max (A:Int) (P:Int)=P:=by omega
 have t:¬ ∃e∈g.bw,e.a=(A:Int)/\e.b=(P:Int):=by rintro⟨e,f,u,l⟩;exact d.ne ((j.m _ _).2 ⟨e,f,.inl ⟨u.symm,l.symm⟩⟩)
 have i:ES g A P=false:=by
  cases c:ES g A P with
  |false=>rfl
  |true=>exact absurd ((an1 j (by omega)).1 c) d.ne
 have l:anr g A P=true:=by unfold anr;simp only[abR,decide_eq_true_eq];omega
 have v:(⟨A,P⟩:Edge)∉g.bw:=fun c=>t ⟨_,c,rfl,rfl⟩
 have o:fa ⟨g.n,s8 ⟨A,P⟩ g.bw⟩=true:=by
  unfold fa at h|-;simp only[abR,afa,decide_eq_false_iff_not,aja,anM]at h|-;refine⟨⟨⟨⟨h.1.1.1.1,h.1.1.1.2⟩,by omega⟩,fun e f=>?_⟩,aoR q v⟩;rcases anO.1 f with rfl|f
  .simp only[ai9,decide_eq_true_eq];omega
  .exact h.1.2 e f
 refine⟨⟨g.n,s8 ⟨A,P⟩ g.bw⟩,?_,o,rfl,fun x y=>?_⟩
 .unfold amQ;rw[h,l,i,r,s,if_neg (by simp),if_neg (by simp),if_neg (by simp),if_neg (by omega)]
 .have w:=vX o;unfold Eg;rw[w.m,j.m];constructor
  .rintro⟨e,f,i⟩;rcases anO.1 f with rfl|f
   .simp only at i;right;omega
   .exact .inl ⟨e,f,i⟩
  .rintro (⟨e,f,i⟩|c)
   .exact ⟨e,anO.2 (.inr f),i⟩
   .refine ⟨⟨A,P⟩,anO.2 (.inl rfl),?_⟩;simp only;omega
def ap6(e:fa g=true)(hn:g.n.toNat=n){a p:Int}(f:¬ ∃A P:Nat,a=A/\p=P/\Ad n (Eg g) A P):¬((amQ g a p).2=0/\a<p):=by
 have d:=vX e;rw[hn]at d;have h:=d.n;rintro⟨b,i⟩;unfold amQ at b;rw[if_neg (by rw[e];simp)]at b;split at b
 .cases b
 .rename_i c1;simp only[anr,Bool.not_eq_false,abR,decide_eq_true_eq]at c1;split at b
  .cases b
  .rename_i c2;obtain⟨A,rfl⟩:∃A:Nat,a=A:=⟨a.toNat,by omega⟩;obtain⟨P,rfl⟩:∃P:Nat,p=P:=⟨p.toNat,by omega⟩;exact f ⟨A,P,rfl,rfl,by omega,by omega,fun x y=>Eg.sy d,fun c=>c2 ((an1 d (by omega)).2 c),Eg.ir d⟩
def GI(g:Gr)(a:Int):List Int:=(((aiZ g.n.toNat).map fun i:Nat=>(i:Int))).filter (ES g a)
def aoU:∀ {l m:List Int},l.Pairwise (· < ·)->m.Pairwise (· < ·)->(∀x,x∈l↔x∈m)->l=m
 |[],[],_,_,_=>rfl
 |[],y::m,_,_,h=>absurd ((h y).2 (by simp)) (by simp)
 |x::l,[],_,_,h=>absurd ((h x).1 (by simp)) (by simp)
 |x::l,y::m,i,hm,h=>by
  have f:=ahg.1 i
  have g:=ahg.1 hm
  have e:x=y:=by
   have a:=(h x).1 (by simp)
   have b:=(h y).2 (by simp)
   rcases aeM.1 a with a|a
   .exact a
   .rcases aeM.1 b with b|b
    .exact b.symm
    .have:=f.1 y b
     have:=g.1 x a
     omega
  subst e
  rw[aoU f.2 g.2 fun z=>?_]
  have:=h z
  simp only[aeM]at this
  constructor
  .intro d
   rcases this.1 (.inr d)with c|c
   .have:=f.1 z d
    omega
   .exact c
  .intro d
   rcases this.2 (.inr d)with c|c
   .have:=g.1 z d
    omega
   .exact c
def apv(r:fa g=true)(hn:g.n.toNat=n){d:Nat->Nd}{L:LL}(h:Qu n (Eg g) d L){x:Nat}(o:x<n):((d x).dr.ai.af.filter fun s=>decide (s.state=0)).map (fun s=>s.peer)=GI g x:=by
 have f:=vX r;rw[hn]at f;have⟨t,u⟩:=h;have i:=t x o;have v:((d x).dr.ai.af.filter fun s=>decide (s.state=0))=(d x).dr.ai.af:=ajq.2 fun s a=>by have:=(i.sd s a).1;simp[this]
 rw[v];refine aoU (al2.2 i.k.sd) ?_ fun p=>?_
 .unfold GI;refine List.Pairwise.filter _ (al2.2 (List.pairwise_lt_range.imp fun h=>by omega))
 .have q:∀y:Nat,y<n->((∃s∈(d x).dr.ai.af,s.peer=y)↔Eg g x y):=fun y b=>by rw[<-u.e x y o b];unfold fk;rw[anm, <-am3];unfold cJ;rw[akq];simp[j8]
  rw[aiK];unfold GI;rw[ajH,aiK,hn];constructor
  .rintro⟨s,a,rfl⟩;have B:=i.k.ep s a;have w:=i.k.ne s a;obtain⟨y,b⟩:∃y:Nat,s.peer=y:=⟨s.peer.toNat,by omega⟩;have j:y<n:=by omega
   refine⟨⟨y,by simpa using j,b.symm⟩,(an1 f (ait w)).2 ?_⟩;rw[b];exact(q y j).1 ⟨s,a,b⟩
  .rintro⟨⟨y,b,rfl⟩,l⟩;have j:y<n:=by simpa using b
   have z:(x:Int)≠(y:Int):=fun c=>by
    have hc:x=y:=by omega
    subst hc;unfold ES at l;have⟨e,A,m⟩:=akq.1 l;have:=f.e e A;simp only[ani,ai9,abR,decide_eq_true_eq]at m;omega
   have⟨s,a,m⟩:=(q y j).2 ((an1 f z).1 l);exact⟨s,a,m⟩
end
end
section
def kn6:tz.kt 6=none/\tz.kt 19=none/\tz.kt 20=none/\tz.kt 22=none/\tz.kt 23=none/\tz.kt 24=none/\tz.kt 38=none/\tz.kt 39=none:=by and_intros<;>kernel_rfl
attribute [local simp] kn6
def kr6:bn 6 3=XB/\bn 6 12=j9/\bn 6 13=Z6/\bn 6 14=j9/\bn 6 24=WE/\bn 19 14=j9/\bn 19 16=j9/\bn 22 6=j9:=by and_intros<;>kernel_rfl
attribute [local simp] kr6 XB Z6 WE
def q38(g:Gr)(a b:Int):aS tz ay 0 38 [.agg (bQ g),aa a,aa b]=some (aR (anr g a b),[]):=by
 refine be func38 rfl ?_;unfold anr;have c:=jU g.bw;by_cases d:0<=a
 .by_cases e:a<g.n
  .by_cases f:0<=b
   .by_cases h:b<g.n
    .by_cases i:a=b;all_goals simp[f38,bQ,c,d,e,f,h,i]
    .simp[f38,bQ,c,d,e,f,h]
   .simp[f38,bQ,c,d,e,f]
  .simp[f38,bQ,c,d,e]
 .simp[f38,bQ,c,d]
def q39(g:Gr)(a b:Int)(O:g.bw.length<=400):aS tz ay 0 39 [.agg (bQ g),aa a,aa b]=some (aR (ES g a b),[]):=by
 refine be func39 rfl ?_;simp only[f39,cr];have y:=jU g.bw;have⟨R,u⟩:=eg (g.bw.map j7);have⟨n,hn⟩:=eg g.bw.length;have i:R.length=n:=by rw[<-u];simpa using hn
 have C:∀j (z:j<g.bw.length),R[j]?=some (j7 g.bw[j]):=fun j z=>by rw[<-u,adf,abM z];rfl
 have D:bQ g=[I g.n,.aj R]:=by unfold bQ;rw[u]
 rw[u]at y;rw[D];refine bp [(3,.c (.aJ [[I g.n,.aj R]] 0 0)),(1,aa a),(2,aa b),(6,aR false)] (fun G=>G=[]) ?_ ?_
 .simp[y]
 rintro A G⟨E,F,H,P,_⟩rfl;rw[iM];refine Ends.sq ?_;refine bp [(3,.c (.aJ [[I g.n,.aj R]] 0 0)),(1,aa a),(2,aa b),(7,aa (0:Nat))] (fun G=>G=[]) ?_ ?_
 .simp[E,F,H]
 rintro A G J rfl;rw[eC];refine iv (fun j:Nat=>[(3,.c (.aJ [[I g.n,.aj R]] 0 0)),(1,aa a),(2,aa b),(7,aa j)]) (fun j _=>j<=n/\ES g a b=(g.bw.drop j).any (ani a b)) (fun j=>n-j) ?_ 0 J ⟨by omega,rfl⟩ fun _=>rfl;rintro j A G ⟨k,l,m,o,_⟩ ⟨Q,q⟩;by_cases d:j<n
 case neg=>
  have t:ES g a b=false:=by rw[q,aiv (by omega)];rfl
  simp[-getElem?_pos,k,l,m,o,d,i,t]
 have B:j<g.bw.length:=by omega
 have p:j<R.length:=by omega
 have f:=C j B;rw[agO B,alS]at q;have⟨e,K⟩:=eg g.bw[j];rw[K]at f q;simp only[j7]at f;have s:adW.wrap ((j:Int)+1)=((j+1:Nat):Int):=cv (by omega);have w:ani a b e=(decide (e.a=a)&&decide (e.b=b)&&decide (a<=b)||decide (e.a=b)&&decide (e.b=a)&&decide (b<a)):=rfl;by_cases c:e.a=a/\e.b=b/\a<=b
 .have t:ES g a b=true:=by rw[q,w];simp[c.1,c.2.1,c.2.2]
  simp[-getElem?_pos,k,l,m,o,d,i,p,f,c.1,c.2.1,c.2.2,t]
 by_cases r:e.a=b/\e.b=a/\b<a
 .have t:ES g a b=true:=by rw[q,w];simp[r.1,r.2.1,r.2.2]
  have L:¬b=a:=by omega
  simp[-getElem?_pos,k,l,m,o,d,i,p,f,r.1,r.2.1,r.2.2,L,t]
 have M:ani a b e=false:=by rw[w];simp only[aiX,aki,decide_eq_false_iff_not];omega
 rw[M,Bool.false_or]at q;have fin:∃v,n-v<n-j/\((j+1:Nat):Int)=(v:Int)/\v<=n/\ES g a b=(g.bw.drop v).any (ani a b):=⟨j+1,by omega,rfl,by omega,q⟩;by_cases c1:e.a=a
 .by_cases c2:e.b=b
  .have c3:¬a<=b:=fun h=>c ⟨c1,c2,h⟩;have c4:¬a=b:=by omega
   simp[-getElem?_pos,-ad0,k,l,m,o,d,i,p,f,c1,c2,c3,c4,s];exact fin
  .by_cases c4:a=b
   .subst c4;simp[-getElem?_pos,-ad0,k,l,m,o,d,i,p,f,c1,c2,s];exact fin
   .simp[-getElem?_pos,-ad0,k,l,m,o,d,i,p,f,c1,c2,c4,s];exact fin
 .by_cases c4:e.a=b
  .by_cases c5:e.b=a
   .have N:¬b<a:=fun h=>r ⟨c4,c5,h⟩;have x:¬b=a:=fun h=>c1 (c4.trans h);simp[-getElem?_pos,-ad0,k,l,m,o,d,i,p,f,c4,c5,N,x,s];exact fin
   .have x:¬b=a:=fun h=>c1 (c4.trans h);simp[-getElem?_pos,-ad0,k,l,m,o,d,i,p,f,c4,c5,x,s];exact fin
  .simp[-getElem?_pos,-ad0,k,l,m,o,d,i,p,f,c1,c4,s];exact fin
end
section
attribute [local simp] kn6 kr6 XB Z6 WE
def ao3(H:List Ob)(q:ab)(l:List Int):Prop:= ∃h v,q= .sl h v 0 l.length/\H[h]?=some (.live v 1 (l.map aC))
def q22(l m:List Int)(L:l.length<=1000):aS tz ay 0 22 [bh (l.map aC),bh (m.map aC)]=some (aR (decide (l=m)),[]):=by
 refine be func22 rfl ?_;simp only[f22,cr];have⟨R,r⟩:=eg (l.map aC);have⟨Q,s⟩:=eg (m.map aC);have⟨n,hn⟩:=eg l.length;have a:R.length=n:=by rw[<-r];simpa using hn
 have y:Q.length=m.length:=by rw[<-s];simp
 have C:∀j (b:j<l.length),R[j]?=some (aC l[j]):=fun j b=>by rw[<-r,adf,abM b];rfl
 have D:∀j (b:j<m.length),Q[j]?=some (aC m[j]):=fun j b=>by rw[<-s,adf,abM b];rfl
 rw[r,s];refine bp [(0,bh R),(1,bh Q),(4,aR false)] (fun G=>G=[]) ?_ ?_
 .simp
 rintro t G⟨k,o,u,_⟩rfl;by_cases c:n=m.length
 case neg=>
  have E:¬(n:Int)=(m.length:Int):=by omega
  have f:l≠m:=fun h=>c (by rw[<-hn,h]);simp[k,o,u,a,y,E,f]
 refine bp [(0,bh R),(1,bh Q),(4,aR false)] (fun G=>G=[]) ?_ ?_
 .simp[k,o,u,a,y,c]
 rintro t G⟨k,o,u,_⟩rfl;rw[iM];refine Ends.sq ?_;refine bp [(0,bh R),(1,bh Q),(5,aa (0:Nat))] (fun G=>G=[]) ?_ ?_
 .simp[k,o]
 rintro t G F rfl;rw[eC];refine iv (fun j:Nat=>[(0,bh R),(1,bh Q),(5,aa j)]) (fun j G=>j<=n/\G=[]/\∀i (h:i<l.length) (p:i<m.length),i<j->l[i]=m[i]) (fun j=>n-j) ?_ 0 F ⟨by omega,rfl,fun i _ _ h=>absurd h (by omega)⟩ fun _=>rfl;rintro j t G ⟨v,w,x,_⟩ ⟨M,rfl,z⟩;by_cases d:j<n
 case neg=>have f:l=m:=List.ext_getElem (by omega) fun i h p=>z i h p (by omega);simp[-getElem?_pos,v,w,x,d,a,f]
 have H:j<l.length:=by omega
 have I:j<m.length:=by omega
 have A:j<R.length:=by omega
 have B:j<Q.length:=by omega
 have g:=C j H;have q:=D j I;have J:adW.wrap ((j:Int)+1)=((j+1:Nat):Int):=cv (by omega);by_cases e:l[j]=m[j]
 .rw[e]at g;simp only[aC]at g q;simp[-getElem?_pos,-ad0,v,w,x,d,a,A,B,g,q,J];refine⟨j+1,by omega,rfl,by omega,fun i h p N=>?_⟩;by_cases K:i=j
  .subst K;exact e
  .exact z i h p (by omega)
 .have f:l≠m:=fun h=>e (by subst h;rfl);simp only[aC]at g q;simp[-getElem?_pos,-ad0,v,w,x,d,a,A,B,g,q,e,f]
def apn{f h v:Nat}{args:List aw}{a:List Ob}{l:List Int}(d:bB tz (ev tz) f args []=some (.c (.sl h v 0 l.length),a))(b:a[h]?=some (.live v 1 (l.map aC))):aS tz ay 0 f args=some (bd 0 0 0 l.length,[ah 1 (l.map aC)]):=by
 have e:Go.Nx.view a (.sl h v 0 l.length)=some (l.map aC):=by have:=um (lo:=0) (len:=l.length) b (by simp);rw[akn,acu (by simp)]at this;exact this
 have g:=bi l;unfold aS ay;rw[d];simp[dI,uo,fh,obj,b,e,g]
def q24(g:Gr)(E:fa g=true)(a:Int):aS tz ay 0 24 [.agg (bQ g),aa a]=some (bd 0 0 0 (GI g a).length,[ah 1 ((GI g a).map aC)]):=by
 have hn:0<=g.n/\g.n<=64/\g.bw.length<=400:=by have:=(nD g).1 E;exact⟨this.1,this.2.1,this.2.2.1⟩
 have m:=UU g;rw[E]at m;have y:=fun b=>q39 g a b hn.2.2;have s:=jU g.bw;have hf:=bi (GI g a)
 obtain⟨r,F,V,h,v,rfl,W⟩:=cG (C:=tz) (f:=24) (args:=[.agg (bQ g),aa a]) (H:=[]) (fun r F=>∃h v,r= .c (.sl h v 0 (GI g a).length)/\F[h]?=some (.live v 1 ((GI g a).map aC))) func24 rfl (by
  simp only[f24,cr];have⟨n,X⟩:=eg g.n.toNat;have J:g.n=(n:Int):=by omega
  have L:GI g a=(((aiZ n).map fun i:Nat=>(i:Int))).filter (ES g a):=by unfold GI;rw[X]
  simp only[bQ]at m y|-;have⟨R,z⟩:=eg (g.bw.map j7);rw[z,J]at m y;rw[z]at s;rw[z,J];have N:∀j,(((aiZ (j+1)).map fun i:Nat=>(i:Int))).filter (ES g a)=(((aiZ j).map fun i:Nat=>(i:Int))).filter (ES g a)++if ES g a (j:Int)=true then [(j:Int)]else []:=fun j=>by rw[aj2,aid,ajl];simp[akN]
  have O:∀j,((((aiZ j).map fun i:Nat=>(i:Int))).filter (ES g a)).length<=j:=fun j=>by have:=aiq (ES g a) ((aiZ j).map fun i:Nat=>(i:Int));simpa using this
  refine bp [(2,.c (.aJ [[I n,.aj R]] 0 0)),(1,aa a)] (fun G=>G=[]) ?_ ?_
  .simp[s]
  rintro A G⟨B,D,_⟩rfl;obtain⟨M,o⟩:∃M:Nat->List Int,M=fun j=>(((aiZ j).map fun i:Nat=>(i:Int))).filter (ES g a):=⟨_,rfl⟩;have Y:∀j,M (j+1)=M j++if ES g a (j:Int)=true then [(j:Int)]else []:=by rw[o];exact N
  have Z:∀j,(M j).length<=j:=by rw[o];exact O
  have ad:GI g a=M n:=by rw[o];exact L
  have P:M 0=[]:=by rw[o];rfl
  rw[ad];clear o N O L;refine bp [(2,.c (.aJ [[I n,.aj R]] 0 0)),(1,aa a),(5,.c (.sl 0 0 0 0))] (fun G=>G=[Ob.live 0 1 []]) ?_ ?_
  .simp[B,D]
  rintro A G⟨B,D,a5,_⟩rfl;rw[iM];refine Ends.sq ?_;refine bp [(2,.c (.aJ [[I n,.aj R]] 0 0)),(1,aa a),(6,aa (0:Nat)),(5,.c (.sl 0 0 0 0))] (fun G=>G=[Ob.live 0 1 []]) ?_ ?_
  .simp[B,D,a5]
  rintro A G g1 rfl;rw[eC];refine iv (fun p:Nat×ab=>[(2,.c (.aJ [[I n,.aj R]] 0 0)),(1,aa a),(6,aa p.1),(5,.c p.2)]) (fun p G=>p.1<=n/\ao3 G p.2 (M p.1)) (fun p=>n-p.1) ?_ (0,.sl 0 0 0 0) g1 ⟨by omega,0,0,by rw[P];rfl,by rw[P];rfl⟩ fun _=>rfl;rintro⟨j,af⟩ A G ⟨t,u,w,q,_⟩ ⟨g2,h,v,Q,k⟩;simp only at t u w q g2 Q k;subst Q;by_cases d:j<n
  case neg=>
   have hj:j=n:=by omega
   subst hj;simp[-getElem?_pos,t,u,w,q,d];exact⟨h,v,⟨rfl,rfl⟩,k⟩
  have S:adW.wrap ((j:Int)+1)=((j+1:Nat):Int):=cv (by omega);have e:=Y j;have ae:=Z j;have x:=y j;have⟨l,hl⟩:=eg (M j);rw[hl]at e k ae q;cases T:ES g a j with
  |false=>rw[T]at x e;simp[-getElem?_pos,-ad0,t,u,w,q,d,s,m,x,S];exact⟨j+1,by omega,_,⟨rfl,rfl⟩,by omega,h,v,by rw[e];simp,by rw[e];simpa using k⟩
  |true=>
   rw[T]at x e;have m1:l.length+1<=maxLen:=by unfold maxLen;omega
   have m2:(l.length+1)*8<=140737488355328:=by omega
   have U:∀K,(G++K)[h]?=some (.live v 1 (l.map aC)):=fun K=>by rw[abE (bf k)];exact k
   simp[-getElem?_pos,-ad0,t,u,w,q,d,s,m,x,S,U,m1,m2];exact⟨j+1,by omega,_,⟨rfl,rfl⟩,by omega,h,v+1,by rw[e];simp,by rw[e,ba (U _)];simp[aC]⟩)
 exact apn V W
end
section
attribute [local simp] kn6 kr6 XB Z6 WE
def amN(n:Nd):List Int:=(n.dr.ai.af.filter fun s=>decide (s.state=0)).map fun s=>s.peer
def q23(x:Nd)(A:x.dr.ai.af.length<=1000):aS tz ay 0 23 [.agg (aT x)]=some (bd 0 0 0 (amN x).length,[ah 1 ((amN x).map aC)]):=by
 obtain⟨r,J,h1,h,v,rfl,h2⟩:=cG (C:=tz) (f:=23) (args:=[.agg (aT x)]) (H:=[]) (fun r J=>∃h v,r= .c (.sl h v 0 (amN x).length)/\J[h]?=some (.live v 1 ((amN x).map aC))) func23 rfl (by
  simp only[f23,cr];have B:=bK x.dr.ai.af;have K:=bV x.book.aA;have L:=bR x.known;have N:=bR x.asked;have O:=bi x.dr.need;have P:=bi x.told;simp only[aT];have⟨sd,Q⟩:=eg x.dr.ai.af;obtain⟨M,g⟩:∃M:Nat->List Int,M=fun j=>((sd.take j).filter fun s=>decide (s.state=0)).map fun s=>s.peer:=⟨_,rfl⟩;have⟨n,S⟩:=eg sd.length;have T:amN x=M n:=by unfold amN;rw[g,Q, <-S];simp only[aiF]
  rw[T];rw[Q]at B A|-
  have ak:∀j (b:j<sd.length),M (j+1)=M j++if sd[j].state=0 then [sd[j].peer]else []:=fun j b=>by
   rw[g];simp only;rw[aiH,abM b,ajl,aid];congr 1
   by_cases c:sd[j].state=0<;>simp[c]
  have al:∀j,(M j).length<=j:=fun j=>by rw[g];simp only[aio];have:=aiq (fun s:aI=>decide (s.state=0)) (sd.take j);have:=List.length_take_le j sd;omega
  have U:M 0=[]:=by rw[g];rfl
  have⟨R,k⟩:=eg (sd.map ax);have D:R.length=n:=by rw[<-k];simpa using S
  have am:∀j (b:j<sd.length),R[j]?=some (ax sd[j]):=fun j b=>by rw[<-k,adf,abM b];rfl
  have⟨m,V⟩:=eg (x.book.aA.map aN);have⟨o,W⟩:=eg (x.known.map aW);have⟨q,X⟩:=eg (x.asked.map aW);rw[k]at B;rw[V]at K;rw[W]at L;rw[X]at N;rw[k,V,W,X];clear g T;simp only[aG]at*;have⟨t,an⟩:=eg (x.dr.need.map aC);have⟨u,ao⟩:=eg (x.told.map aC);rw[an]at O|-;rw[ao]at P|-;refine bp [(1,.c (.aJ [[I x.dr.ai.id,I x.dr.ai.phase,.aj R,I x.dr.aQ,.aj t,I x.book.last,.aj m,.aj o,.aj u,.aj q]] 0 0))] (fun G=>G=[]) ?_ ?_
  .simp[B,K,L,N,O,P]
  rintro E G⟨F,_⟩rfl;refine bp [(1,.c (.aJ [[I x.dr.ai.id,I x.dr.ai.phase,.aj R,I x.dr.aQ,.aj t,I x.book.last,.aj m,.aj o,.aj u,.aj q]] 0 0)),(3,.c (.sl 0 0 0 0))] (fun G=>G=[Ob.live 0 1 []]) ?_ ?_
  .simp[F]
  rintro E G⟨F,a3,_⟩rfl;rw[iM];refine Ends.sq ?_;refine bp [(1,.c (.aJ [[I x.dr.ai.id,I x.dr.ai.phase,.aj R,I x.dr.aQ,.aj t,I x.book.last,.aj m,.aj o,.aj u,.aj q]] 0 0)),(4,aa (0:Nat)),(3,.c (.sl 0 0 0 0))] (fun G=>G=[Ob.live 0 1 []]) ?_ ?_
  .simp[F,a3]
  rintro E G g1 rfl;rw[eC];refine iv (fun p:Nat×ab=>[(1,.c (.aJ [[I x.dr.ai.id,I x.dr.ai.phase,.aj R,I x.dr.aQ,.aj t,I x.book.last,.aj m,.aj o,.aj u,.aj q]] 0 0)),(4,aa p.1),(3,.c p.2)]) (fun p G=>p.1<=n/\ao3 G p.2 (M p.1)) (fun p=>n-p.1) ?_ (0,.sl 0 0 0 0) g1 ⟨by omega,0,0,by rw[U];rfl,by rw[U];rfl⟩ fun _=>rfl;rintro⟨j,ar⟩ E G ⟨w,y,i,_⟩ ⟨g2,h,v,Y,e⟩;simp only at w y i g2 Y e;subst Y;by_cases d:j<n
  case neg=>
   have b:j=n:=by omega
   subst b;simp[-getElem?_pos,w,y,i,d,D];exact⟨h,v,⟨rfl,rfl⟩,e⟩
  have Z:adW.wrap ((j:Int)+1)=((j+1:Nat):Int):=cv (by omega);have ad:j<sd.length:=by omega
  have ae:j<R.length:=by omega
  have a:=ak j ad;have ap:=al j;have z:=am j ad;have⟨aq,hy⟩:=eg sd[j];have⟨l,A⟩:=eg (M j);rw[A]at a e ap i;rw[hy]at z a;simp only[ax]at z;by_cases c:aq.state=0
  .rw[if_pos c]at a;have m1:l.length+1<=maxLen:=by unfold maxLen;omega
   have m2:(l.length+1)*8<=140737488355328:=by omega
   have gh:∀ag,(G++ag)[h]?=some (.live v 1 (l.map aC)):=fun ag=>by rw[abE (bf e)];exact e
   simp[-getElem?_pos,-ad0,w,y,i,d,D,ae,z,c,Z,gh,m1,m2];exact⟨j+1,by omega,_,⟨rfl,rfl⟩,by omega,h,v+1,by rw[a];simp,by rw[a,ba (gh _)];simp[aC]⟩
  .rw[if_neg c]at a;simp[-getElem?_pos,-ad0,w,y,i,d,D,ae,z,c,Z];exact⟨j+1,by omega,_,⟨rfl,rfl⟩,by omega,h,v,by rw[a];simp,by rw[a];simpa using e⟩)
 exact apn h1 h2
end
section
attribute [local simp] kn6 kr6 XB Z6 WE
def aoh{x:Edge}{r:List Edge}:∀ {l:List Edge},l.any (nX x)=false->s8 x (l++r)=l++s8 x r
 |[],_=>rfl
 |y::l,h=>by
  simp only[alS,aiX]at h
  rw[ai7,s8,h.1,if_neg (by simp),aoh h.2]
  rfl
def ape{x:Edge}{r:List Edge}:∀ {l:List Edge},l.any (nX x)=true->s8 x (l++r)=s8 x l++r
 |y::l,h=>by
  rw[ai7,s8,s8]
  cases c:nX x y with
  |true=>simp
  |false=>
   simp only[alS,c,Bool.false_or]at h
   rw[if_neg (by simp),if_neg (by simp),ape h]
   rfl
def BW(x:Edge)(l:List Edge):List Edge:=if l.any (nX x)=true then s8 x l else l
structure amS(G:List Ob)(n:Int)(x:Edge)(l:List Edge):Prop where
 c:G[0]?=some (ah 2 [[I 0,eW]])
 e:G[1]?=some (ah 2 [j7 x])
 q:∃q,G[2]?=some (ah 2 [[I n,q]])/\((l=[]/\q=eW)\/∃h v,l≠ []/\q= .sl h v 0 l.length/\G[h]?=some (.live v 2 (l.map j7))/\3<=h)
def amS.one{G:List Ob}{n:Int}{x y:Edge}{A:Ob}(h:amS G n x []):amS ((G++[A,.live 0 2 [j7 y]]).set 2 (ah 2 [[I n,.sl (G.length+1) 0 0 1]])) n x [y]:=by
 have a:=bf h.c;have b:=bf h.e;have⟨q,d,_⟩:=h.q;have f:=bf d;refine⟨?_,?_,.sl (G.length+1) 0 0 1,?_,.inr ⟨G.length+1,0,by simp,rfl,?_,by omega⟩⟩
 .rw[aat (by omega),abE a];exact h.c
 .rw[aat (by omega),abE b];exact h.e
 .rw[ahr (by simp;omega)]
 .rw[aat (by omega),aea (by omega)];simp
def amS.more{G:List Ob}{n:Int}{x y:Edge}{l:List Edge}{h v:Nat}{A:Ob}(H:amS G n x l)(a:G[h]?=some (.live v 2 (l.map j7)))(b:3<=h):amS (((G++[A]).set h (.live (v+1) 2 (l.map j7++[j7 y]))).set 2 (ah 2 [[I n,.sl h (v+1) 0 (l.length+1)]])) n x (l++[y]):=by
 have d:=bf H.c;have f:=bf H.e;have⟨q,g,_⟩:=H.q;have i:=bf g;have j:=bf a;refine⟨?_,?_,.sl h (v+1) 0 (l.length+1),?_,.inr ⟨h,v+1,by simp,by simp,?_,b⟩⟩
 .rw[aat (by omega),aat (by omega),abE d];exact H.c
 .rw[aat (by omega),aat (by omega),abE f];exact H.e
 .rw[ahr (by simp;omega)]
 .rw[aat (by omega),ahr (by simp;omega)];simp
def amS.cs{G:List Ob}{n:Int}{x:Edge}{l:List Edge}(H:amS G n x l):(∀K,(G++K)[1]?=some (ah 2 [[I x.a,I x.b]]))/\((l=[]/\G[2]?=some (ah 2 [[I n,eW]])/\∀K,(G++K)[2]?=some (ah 2 [[I n,eW]]))\/
  ∃h v,3<=h/\G[h]?=some (.live v 2 (l.map j7))/\G[2]?=some (ah 2 [[I n,.sl h v 0 l.length]])/\(∀K,(G++K)[2]?=some (ah 2 [[I n,.sl h v 0 l.length]]))/\(∀K,(G++K)[h]?=some (.live v 2 (l.map j7)))/\∀K X,((G++K).set h X)[2]?=some (ah 2 [[I n,.sl h v 0 l.length]])):=by
 have c:∀ {i:Nat} {o:Ob},G[i]?=some o->∀K,(G++K)[i]?=some o:=fun d K=>by rw[abE (bf d)];exact d
 have⟨q,f,g⟩:=H.q
 refine⟨c H.e,?_⟩
 rcases g with⟨j,rfl⟩|⟨h,v,_,rfl,d,k⟩
 .exact .inl ⟨j,f,c f⟩
 .exact .inr ⟨h,v,k,d,f,c f,c d,fun K X=>by rw[aat (by omega)];exact c f K⟩
def q19(g:Gr)(a b:Int)(hl:g.bw.length<=400):aS tz ay 1 19 [.agg (bQ g),aa a,aa b]=some (.aM [.agg (bQ (amQ g a b).1),aa (amQ g a b).2],[]):=by
 have N:=UU g;have O:=q38 g a b;have Q:=q39 g a b hl;have D:=jU g.bw;have⟨ae,d⟩:=eg (amQ g a b)
 have⟨r,H',h1,h2⟩:=cG (C:=tz) (f:=19) (args:=[.agg (bQ g),aa a,aa b]) (H:=[]) (fun r H'=>dI true H' r=some (.aM [.agg (bQ ae.1),aa ae.2],[])) func19 rfl (by
  unfold amQ at d;simp only[f19,cr];simp only[bQ]at N O Q|-;have⟨R,hR⟩:=eg (g.bw.map j7);have⟨n,hn⟩:=eg g.bw.length;have ad:R.length=n:=by rw[<-hR];simpa using hn
  have af:∀j (hj:j<g.bw.length),R[j]?=some (j7 g.bw[j]):=fun j hj=>by rw[<-hR,adf,abM hj];rfl
  rw[hR]at N O Q D|-;refine bp [(3,.c (.aJ [[I g.n,.aj R]] 0 0)),(1,aa a),(2,aa b),(6,au 0)] (fun G=>G=[ah 2 [[I 0,eW]]]) ?_ ?_
  .simp[D]
  rintro q G⟨m,s,t,o,_⟩rfl;cases c1:fa g with
  |false=>rw[c1]at d N;rw[if_pos rfl]at d;subst d;simp[m,s,t,o,N,D]
  |true=>
  rw[c1]at d N;rw[if_neg (by simp)]at d;refine bp [(3,.c (.aJ [[I g.n,.aj R]] 0 0)),(1,aa a),(2,aa b),(6,au 0)] (fun G=>G=[ah 2 [[I 0,eW]]]) ?_ ?_
  .simp[m,s,t,o,N,D]
  rintro q G⟨m,s,t,o,_⟩rfl;cases c2:anr g a b with
  |false=>rw[c2]at d O;rw[if_pos rfl]at d;subst d;simp[m,s,t,o,O,D]
  |true=>
  rw[c2]at d O;rw[if_neg (by simp)]at d;refine bp [(3,.c (.aJ [[I g.n,.aj R]] 0 0)),(1,aa a),(2,aa b),(6,au 0)] (fun G=>G=[ah 2 [[I 0,eW]]]) ?_ ?_
  .simp[m,s,t,o,O,D]
  rintro q G⟨m,s,t,o,_⟩rfl;cases c3:ES g a b with
  |true=>rw[c3]at d Q;rw[if_pos rfl]at d;subst d;simp[m,s,t,o,Q,D]
  |false=>
  rw[c3]at d Q;rw[if_neg (by simp)]at d;refine bp [(3,.c (.aJ [[I g.n,.aj R]] 0 0)),(1,aa a),(2,aa b),(6,au 0)] (fun G=>G=[ah 2 [[I 0,eW]]]) ?_ ?_
  .simp[m,s,t,o,Q,D]
  rintro q G⟨m,s,t,o,_⟩rfl;by_cases c4:n=400
  .rw[if_pos (by omega)]at d;subst d;simp[m,s,t,o,ad,c4]
  rw[if_neg (by omega)]at d;have al:¬(n:Int)=400:=by omega
  refine bp [(3,.c (.aJ [[I g.n,.aj R]] 0 0)),(1,aa a),(2,aa b),(6,au 0)] (fun G=>G=[ah 2 [[I 0,eW]]]) ?_ ?_
  .simp[m,s,t,o,ad,al]
  rintro q G⟨m,s,t,o,_⟩rfl;have⟨x,hx⟩:=eg (⟨min a b,max a b⟩:Edge);rw[hx]at d;have am:min a b=x.a:=by rw[<-hx]
  have an:max a b=x.b:=by rw[<-hx]
  refine bp [(3,.c (.aJ [[I g.n,.aj R]] 0 0)),(6,au 0),(8,au 1)] (fun G=>G=[ah 2 [[I 0,eW]],ah 2 [j7 x]]) ?_ ?_
  .simp[m,s,t,o,am,an,j7]
  rintro q G⟨m,o,a8,_⟩rfl;refine bp [(3,.c (.aJ [[I g.n,.aj R]] 0 0)),(6,au 0),(8,au 1),(9,au 2),(10,aR false)] (fun G=>G=[ah 2 [[I 0,eW]],ah 2 [j7 x],ah 2 [[I g.n,eW]]]) ?_ ?_
  .simp[m,o,a8]
  rintro q G⟨m,o,a8,a9,ao,_⟩rfl;have⟨E,hE⟩:=eg g.bw;rw[hE]at af hn d hl;have h0:amS [ah 2 [[I 0,eW]],ah 2 [j7 x],ah 2 [[I g.n,eW]]] g.n x (BW x (E.take 0)):=⟨rfl,rfl,eW,rfl,.inl ⟨rfl,rfl⟩⟩;have ap:E.take n=E:=by rw[<-hn,aiF]
  refine bp [(6,au 0),(8,au 1),(9,au 2),(10,aR (E.any (nX x)))] (fun G=>amS G g.n x (BW x E)) ?_ ?_
  .refine bp [(3,.c (.aJ [[I g.n,.aj R]] 0 0)),(6,au 0),(8,au 1),(9,au 2),(11,aa (0:Nat)),(10,aR ((E.take 0).any (nX x)))] (fun G=>G=[ah 2 [[I 0,eW]],ah 2 [j7 x],ah 2 [[I g.n,eW]]]) ?_ ?_
   .simp[m,o,a8,a9,ao]
   rintro q G g1 rfl;rw[eC];refine iv (fun j:Nat=>[(3,.c (.aJ [[I g.n,.aj R]] 0 0)),(6,au 0),(8,au 1),(9,au 2),(11,aa j),(10,aR ((E.take j).any (nX x)))]) (fun j G=>j<=n/\amS G g.n x (BW x (E.take j))) (fun j=>n-j) ?_ 0 g1 ⟨by omega,h0⟩ fun _=>rfl;rintro j q G ⟨w,k,p,l,y,h,_⟩ ⟨g2,i⟩;by_cases ag:j<n
   case neg=>
    have hj:j=n:=by omega
    subst hj;rw[ap]at h i;simp[-getElem?_pos,w,k,p,l,y,h,ag,ad];exact i
   have hw:adW.wrap ((j:Int)+1)=((j+1:Nat):Int):=cv (by omega);have ai:j<E.length:=by omega
   have W:j<R.length:=by omega
   have F:=af j ai;have hs:E.take (j+1)=E.take j++[E[j]]:=by rw[aiH,abM ai];rfl
   have aw:(BW x (E.take j)).length<=j+1:=by
    unfold BW;split
    .rw[anM,ai1];omega
    .rw[ai1];omega
   have⟨e,he⟩:=eg E[j];rw[he]at F hs;have S:=Zr x e;have⟨P,Y⟩:=eg ((E.take j).any (nX x))
   have hO:BW x (E.take (j+1))=(if P=false/\nX x e=true then BW x (E.take j)++[x]else BW x (E.take j))++[e]:=by
    rw[hs];unfold BW;rw[List.any_append,Y,alS,List.any_nil,Bool.or_false];cases P with
    |true=>simp only[Bool.true_or,if_true,Bool.true_eq_false,false_and,if_false];exact ape Y
    |false=>
     rw[aoh Y];cases c:nX x e with
     |true=>simp[s8,c]
     |false=>simp
   have hQ:(E.take (j+1)).any (nX x)=(P||nX x e):=by rw[hs,List.any_append,Y,alS,List.any_nil,Bool.or_false]
   rw[Y]at h;refine bp [(3,.c (.aJ [[I g.n,.aj R]] 0 0)),(6,au 0),(8,au 1),(9,au 2),(11,aa j),(10,aR P)] (fun Z=>Z=G) ?_ ?_
   .simp[-getElem?_pos,w,k,p,l,y,h,ag,ad]
   rintro q G1⟨w,k,p,l,y,h,_⟩rfl;refine bp [(3,.c (.aJ [[I g.n,.aj R]] 0 0)),(6,au 0),(8,au 1),(9,au 2),(11,aa j),(10,aR (P||nX x e))] (fun Z=>amS Z g.n x (BW x (E.take (j+1)))) ?_ ?_
   .rw[eC];refine Ends.bl ?_;refine bp [(3,.c (.aJ [[I g.n,.aj R]] 0 0)),(6,au 0),(8,au 1),(9,au 2),(11,aa j),(10,aR (P||nX x e))] (fun Z=>amS Z g.n x (if P=false/\nX x e=true then BW x (E.take j)++[x]else BW x (E.take j))) ?_ ?_
    .have z:=i.e;have⟨B,J⟩:=i.cs;simp only[j7]at S z F;cases P with
     |true=>simp[-getElem?_pos,w,k,p,l,y,h];exact i
     |false=>
      cases c:nX x e with
      |false=>rw[c]at S;simp[-getElem?_pos,w,k,p,l,y,h,F,z,S,W];exact i
      |true=>
       rw[c]at S;rcases J with⟨L,u,A⟩|⟨ab,v,T,M,u,A,U,V⟩
       .simp[-getElem?_pos,w,k,p,l,y,h,F,z,u,S,W,B,A];rw[L]at i|-;exact i.one
       .have n1:(BW x (E.take j)).length+1<=maxLen:=by unfold maxLen;omega
        have n2:((BW x (E.take j)).length+1)*16<=140737488355328:=by omega
        simp[-getElem?_pos,w,k,p,l,y,h,F,z,u,S,W,B,A,U,V,n1,n2];exact i.more M T
    .rintro q G2⟨w,k,p,l,y,h,_⟩K;have z:=K.e;have⟨B,J⟩:=K.cs
     have aq:(if P=false/\nX x e=true then BW x (E.take j)++[x]else BW x (E.take j)).length<=j+2:=by
      split
      .simp;omega
      .omega
     rw[hO];have⟨ak,ar⟩:=eg (if P=false/\nX x e=true then BW x (E.take j)++[x]else BW x (E.take j));rw[ar]at K J aq|-;simp only[j7]at z F;rcases J with⟨L,u,A⟩|⟨ab,v,T,M,u,A,U,V⟩
     .simp[-getElem?_pos,w,k,p,l,y,h,F,z,u,W,B,A];rw[L]at K|-;exact K.one
     .have n1:ak.length+1<=maxLen:=by unfold maxLen;omega
      have n2:(ak.length+1)*16<=140737488355328:=by omega
      simp[-getElem?_pos,w,k,p,l,y,h,F,z,u,W,B,A,U,V,n1,n2];exact K.more M T
   .rintro q G2⟨w,k,p,l,y,h,_⟩K;rw[<-hQ]at h;simp[-getElem?_pos,-ad0,w,k,p,l,y,h,hw];exact⟨j+1,by omega,⟨rfl,rfl⟩,by omega,K⟩
  .rintro q G⟨k,p,l,h,_⟩i
   have ax:(BW x E).length<=n+1:=by
    unfold BW;split
    .rw[anM];omega
    .omega
   refine bp [(6,au 0),(9,au 2)] (fun G=>amS G g.n x (s8 x E)) ?_ ?_
   .have z:=i.e;have⟨B,J⟩:=i.cs;simp only[j7]at z;cases c:E.any (nX x)with
    |true=>
     have:BW x E=s8 x E:=by unfold BW;rw[c,if_pos rfl]
     rw[c]at h;rw[this]at i;simp[-getElem?_pos,k,p,l,h];exact i
    |false=>
     have hO:s8 x E=BW x E++[x]:=by have:=aoh (r:=[]) c;unfold BW;rw[c,if_neg (by simp)];simpa[s8]using this
     rw[c]at h;rw[hO];rcases J with⟨L,u,A⟩|⟨ab,v,T,M,u,A,U,V⟩
     .simp[-getElem?_pos,k,p,l,h,z,u,B,A];rw[L]at i|-;exact i.one
     .have n1:(BW x E).length+1<=maxLen:=by unfold maxLen;omega
      have n2:((BW x E).length+1)*16<=140737488355328:=by omega
      simp[-getElem?_pos,k,p,l,h,z,u,B,A,U,V,n1,n2];exact i.more M T
   .rintro q G⟨k,l,_⟩i;have⟨B,J⟩:=i.cs;have l0:=i.c;rcases J with⟨L,_⟩|⟨ab,v,T,M,u,A,U,V⟩
    .have:(s8 x E).length=0:=by rw[L];rfl
     rw[anM]at this;omega
    .have hf:=jU (s8 x E);have hg:∀X,(G.set 0 X)[ab]?=some (.live v 2 ((s8 x E).map j7)):=fun X=>by rw[aat (by omega)];exact M
     have av:∀X,(G.set 0 X)[0]?=some X:=fun X=>ba l0;have hv:∀X,Go.Nx.view (G.set 0 X) (.sl ab v 0 (s8 x E).length)=some ((s8 x E).map j7):=fun X=>by have:=um (lo:=0) (len:=(s8 x E).length) (hg X) (by simp);rw[akn,acu (by simp)]at this;exact this
     subst d;simp[-getElem?_pos,k,l,l0,u,av,hg,hv,obj,hf])
 rw[d];exact Pd h1 h2
end
section
attribute [local simp] kn6 kr6 XB Z6 WE
def KA(b:Nat)(c:Nat->aU)(H:List Ob)(J:Cl->Prop)(G:List Ob):Prop:= ∃a d,bJ G a b d/\aH Gx c a H G/\J d
theorem KA.mono{b:Nat}{c:Nat->aU}{H G:List Ob}{J a:Cl->Prop}(h:KA b c H J G)(d:∀K,J K->a K):KA b c H a G:=by have⟨e,f,g,i,j⟩:=h;exact⟨e,f,g,i,d _ j⟩
section
variable{S:(Nat->Nd)->LL->Prop}{H:List Ob}{c:Nat->aU}{b n T G0:Nat}{K:Cl}{s C:Nat->Nat->Nat}
def Cal.T8(h:Cal S n G0 K s C T)(a:G0<=800000000):T<=800000000:=by have:=h.t;omega
def Cal.oY(h:Cal S n G0 K s C T){x y:Nat}(a:x<n)(b:y<n):(K.oY x y).length<=1/\(x≠y->K.oY x y=[]->Lf K x y=[]):=by
 have hn:=h.hn;unfold Cl.oY;by_cases c:x=y
 .rw[if_neg (fun h=>h.2.2 (by rw[c]))];exact⟨by simp,fun h=>absurd c h⟩
 .have e:K.two (x:Int) (y:Int):=by show((0:Int)<=(x:Int)/\(x:Int)<K.nodes.length)/\((0:Int)<=(y:Int)/\(y:Int)<K.nodes.length)/\(x:Int)≠(y:Int);omega
  rw[if_pos e];exact⟨(h.l.d x y a b c).one,fun _ h=>h⟩
def c20(hS:anE n S)(hG:G0<=800000000)(hn:n<=5)(ae:bJ H c b K)(hr:DD S n G0 K s C T)(hp:rR n (Lf K) s<=2990):
  ∃L h E P Q R,aO tz ay 20 [au b,aa n] H=some (aR true,L)/\bJ L R b h/\aH Gx c R H L/\DD S n G0 h E P Q/\rR n (Lf h) E<=rR n (Lf K) s/\∀x y,x<n->y<n->x≠y->Lf h x y=[]:=by
 obtain⟨aj,L,h1,rfl,h,E,P,Q,R,V⟩:=cG (C:=tz) (f:=20) (args:=[au b,aa n]) (H:=H) (fun aj L=>aj=aR true/\∃h E P Q R,bJ L R b h/\aH Gx c R H L/\DD S n G0 h E P Q/\rR n (Lf h) E<=rR n (Lf K) s/\∀x y,x<n->y<n->x≠y->Lf h x y=[]) func20 rfl (by
  simp only[f20,cr]
  refine bp [(0,au b),(1,aa n)] (fun G=>G=H) ?_ ?_
  .simp
  rintro j G⟨a,d,_⟩af
  obtain rfl:H=G:=af.symm
  rw[iM]
  refine Ends.sq ?_
  refine bp [(0,au b),(1,aa n),(5,aa (0:Nat))] (fun l=>l=H) ?_ ?_
  .simp[a,d]
  rintro j G1 t af
  obtain rfl:H=G1:=af.symm
  rw[eC]
  refine iv (fun i:Nat=>[(0,au b),(1,aa n),(5,aa i)]) (fun i G=>KA b c H (fun h=>∃E P Q,DD S n G0 h E P Q/\rR n (Lf h) E+i<=rR n (Lf K) s) G) (fun i=>3000-i) ?_ 0 t ⟨c,K,ae,aH.refl _ _ _,s,C,T,hr,by omega⟩ fun _=>rfl
  rintro i j G⟨a,d,e,_⟩⟨c1,u,M,N,v,C1,T1,r1,p1⟩
  have aq:(i:Int)<3000:=by omega
  have ar:adW.wrap ((i:Int)+1)=((i+1:Nat):Int):=cv (by omega)
  refine bp [(0,au b),(1,aa n),(5,aa i)] (fun l=>l=G) ?_ ?_
  .simp[a,d,e,aq]
  rintro j G1⟨a,d,e,_⟩rfl
  rw[iM]
  refine Ends.sq ?_
  rw[eC]
  refine Ends.bl ?_
  refine bp [(0,au b),(1,aa n),(5,aa i),(6,aa (0:Nat))] (fun l=>l=G1) ?_ ?_
  .simp[a,d,e]
  rintro j G2⟨a,d,e,g,_⟩rfl
  have av:KA b c H (fun h=>∃s C T,Trn S n G0 (Lf u) v 0 h s C T) G2:=⟨c1,u,M,N,v,C1,T1,r1.begin⟩
  clear M N
  refine bp [(0,au b),(1,aa n),(5,aa i),(6,aa (0:Nat))] (fun G=>KA b c H (fun h=>∃s C T,Trn S n G0 (Lf u) v n h s C T) G) ?_ ?_
  .refine bp [(0,au b),(1,aa n),(5,aa i),(6,aa (0:Nat)),(7,aa (0:Nat))] (fun l=>l=G2) ?_ ?_
   .simp[a,d,e,g]
   rintro j G3 t rfl
   rw[eC]
   refine iv (fun x:Nat=>[(0,au b),(1,aa n),(5,aa i),(6,aa (0:Nat)),(7,aa x)]) (fun x G=>x<=n/\KA b c H (fun h=>∃s C T,Trn S n G0 (Lf u) v x h s C T) G) (fun x=>n-x) ?_ 0 t ⟨by omega,av⟩ fun _=>rfl
   rintro x j G⟨a,d,e,g,o,_⟩⟨g2,m⟩
   by_cases I:x<n
   case neg=>
    have p:x=n:=by omega
    subst p
    simp[a,d,e,g,o,I]
    exact m
   have ag:adW.wrap ((x:Int)+1)=((x+1:Nat):Int):=cv (by omega)
   refine bp [(0,au b),(1,aa n),(5,aa i),(6,aa (0:Nat)),(7,aa x)] (fun l=>l=G) ?_ ?_
   .simp[a,d,e,g,o,I]
   rintro j G3⟨a,d,e,g,o,_⟩rfl
   refine bp [(0,au b),(1,aa n),(5,aa i),(6,aa (0:Nat)),(7,aa x)] (fun G=>KA b c H (fun h=>∃s C T,Trn S n G0 (Lf u) v (x+1) h s C T) G) ?_ ?_
   .rw[eC]
    refine Ends.bl ?_
    refine bp [(0,au b),(1,aa n),(5,aa i),(6,aa (0:Nat)),(7,aa x)] (fun G=>KA b c H (fun h=>∃s C T,Mid S n G0 (Lf u) v x 0 h s C T) G) ?_ ?_
    .have ⟨c2,J,M,N,U,W,X,t2⟩:=m
     have⟨c3,H3,aw,m1,Y⟩:=VE M t2.qw.w.i x
     simp[-aD,a,d,e,g,o,aw]
     exact⟨c3,_,m1,N.trans Y,U,W,X,t2.go hG I⟩
    rintro j G⟨a,d,e,g,o,_⟩m
    refine bp [(0,au b),(1,aa n),(5,aa i),(6,aa (0:Nat)),(7,aa x),(8,aa (0:Nat))] (fun l=>l=G) ?_ ?_
    .simp[a,d,e,g,o]
    rintro j G4 t rfl
    rw[eC]
    refine iv (fun y:Nat=>[(0,au b),(1,aa n),(5,aa i),(6,aa (0:Nat)),(7,aa x),(8,aa y)]) (fun y G=>y<=n/\KA b c H (fun h=>∃s C T,Mid S n G0 (Lf u) v x y h s C T) G) (fun y=>n-y) ?_ 0 t ⟨by omega,m⟩ fun _=>rfl
    rintro y j G⟨a,d,e,g,o,z,_⟩⟨g3,m⟩
    by_cases O:y<n
    case neg=>
     have D:y=n:=by omega
     subst D
     simp[a,d,e,g,o,z,O]
     exact m.mono fun K ⟨s,C,T,ae⟩=>⟨s,C,T,ae.fin⟩
    have ad:adW.wrap ((y:Int)+1)=((y+1:Nat):Int):=cv (by omega)
    refine bp [(0,au b),(1,aa n),(5,aa i),(6,aa (0:Nat)),(7,aa x),(8,aa y)] (fun l=>l=G) ?_ ?_
    .simp[a,d,e,g,o,z,O]
    rintro j G4⟨a,d,e,g,o,z,_⟩rfl
    refine bp [(0,au b),(1,aa n),(5,aa i),(6,aa (0:Nat)),(7,aa x),(8,aa y)] (fun G=>KA b c H (fun h=>∃s C T,Mid S n G0 (Lf u) v x (y+1) h s C T) G) ?_ ?_
    .rw[eC]
     refine Ends.bl ?_
     refine bp [(0,au b),(1,aa n),(5,aa i),(6,aa (0:Nat)),(7,aa x),(8,aa y),(9,aa (0:Nat))] (fun l=>l=G4) ?_ ?_
     .simp[a,d,e,g,o,z]
     rintro j G5 t rfl
     rw[eC]
     refine iv (fun k:Nat=>[(0,au b),(1,aa n),(5,aa i),(6,aa (0:Nat)),(7,aa x),(8,aa y),(9,aa k)]) (fun k G=>k<=8/\KA b c H (fun h=>∃s C T,Mid S n G0 (Lf u) v x (if k=0 then y else y+1) h s C T) G) (fun k=>8-k) ?_ 0 t ⟨by omega,m⟩ fun _=>rfl
     rintro k j G⟨a,d,e,g,o,z,a9,_⟩⟨g4,m⟩
     by_cases dk:k<8
     case neg=>
      have hk:k=8:=by omega
      subst hk
      simp[a,d,e,g,o,z,a9]
      exact m
     have ax:(k:Int)<8:=by omega
     have az:adW.wrap ((k:Int)+1)=((k+1:Nat):Int):=cv (by omega)
     refine bp [(0,au b),(1,aa n),(5,aa i),(6,aa (0:Nat)),(7,aa x),(8,aa y),(9,aa k)] (fun l=>l=G) ?_ ?_
     .simp[a,d,e,g,o,z,a9,ax]
     rintro j G5⟨a,d,e,g,o,z,a9,_⟩rfl
     have⟨c2,J,M,N,U,W,X,t2⟩:=m
     have⟨c3,H3,q,ev,ak,le,aA,m0,m1,Y,m3⟩:=YR wG M t2.qw.w (t2.qw.T8 hG) x y 0
     have aB:KA b c H (fun h=>∃s C T,Mid S n G0 (Lf u) v x (if k+1=0 then y else y+1) h s C T) H3:=by
      refine⟨c3,q,Y,N.trans m3,?_⟩
      rw[if_neg (by omega)]
      by_cases hk:k=0
      .rw[if_pos hk]at t2
       exact t2.jk hS hG I O m0
      .rw[if_neg hk]at t2
       rw[t2.idle m0]
       exact⟨U,W,X,t2⟩
     simp[-aD,-ad0,a,d,e,g,o,z,a9,aA,az]
     exact⟨k+1,by omega,rfl,by omega,aB⟩
    .rintro j G⟨a,d,e,g,o,z,_⟩m
     simp[-ad0,a,d,e,g,o,z,ad]
     exact⟨y+1,by omega,rfl,by omega,m⟩
   .rintro j G⟨a,d,e,g,o,_⟩m
    simp[-ad0,a,d,e,g,o,ag]
    exact⟨x+1,by omega,rfl,by omega,m⟩
  rintro j G⟨a,d,e,g,_⟩⟨c2,J,M,N,U,W,X,t2⟩
  have⟨q1,q2⟩:=t2.fin
  have aS:=t2.le
  obtain⟨F,hF⟩:∃F:Nat->Nat->Nat,F=fun(x y:Nat)=>(J.oY x y).length:=⟨_,rfl⟩
  have al:∀x y,x<n->y<n->F x y<=1:=fun x y p D=>by rw[hF];exact(q1.qw.oY p D).1
  have am:∀x y,x<n->y<=n->qa y (F x)<=y:=fun x y p D=>by
   have:=anP (n:=y) (k:=1) fun ah Z=>al x ah p (by omega)
   omega
  have aC:∀x,x<=n->qa x (fun x=>qa n (F x))<=x*n:=fun x p=>anP fun ah Z=>am ah n (by omega) (ad3 _)
  have aE:∀x,x<=n->qa x (fun x=>qa n (F x))<=25:=fun x p=>by
   have:=aC x p
   have:x*n<=5*5:=amJ (by omega) hn
   omega
  have aF:KA b c H (· =J) G:=⟨c2,J,M,N,rfl⟩
  refine bp [(0,au b),(1,aa n),(5,aa i),(6,aa (qa n fun x=>qa n (F x):Nat))] (fun G=>KA b c H (· =J) G) ?_ ?_
  .refine bp [(0,au b),(1,aa n),(5,aa i),(6,aa (qa 0 fun x=>qa n (F x):Nat)),(10,aa (0:Nat))] (fun l=>l=G) ?_ ?_
   .simp[a,d,e,g,qa]
   rintro j G3 t rfl
   rw[eC]
   refine iv (fun x:Nat=>[(0,au b),(1,aa n),(5,aa i),(6,aa (qa x fun x=>qa n (F x):Nat)),(10,aa x)]) (fun x G=>x<=n/\KA b c H (· =J) G) (fun x=>n-x) ?_ 0 t ⟨by omega,aF⟩ fun _=>rfl
   rintro x j G⟨a,d,e,g,r,_⟩⟨g2,m⟩
   by_cases I:x<n
   case neg=>
    have p:x=n:=by omega
    subst p
    simp[a,d,e,g,r,I]
    exact m
   have ag:adW.wrap ((x:Int)+1)=((x+1:Nat):Int):=cv (by omega)
   refine bp [(0,au b),(1,aa n),(5,aa i),(6,aa (qa x fun x=>qa n (F x):Nat)),(10,aa x)] (fun l=>l=G) ?_ ?_
   .simp[a,d,e,g,r,I]
   rintro j G4⟨a,d,e,g,r,_⟩rfl
   have aG:=aE x (by omega)
   have an:(qa (x+1) fun x=>qa n (F x))=(qa x fun x=>qa n (F x))+qa n (F x):=rfl
   have⟨A,hA⟩:=eg (qa x fun x=>qa n (F x))
   rw[hA]at g aG an
   refine bp [(0,au b),(1,aa n),(5,aa i),(6,aa (A+qa n (F x):Nat)),(10,aa x)] (fun G=>KA b c H (· =J) G) ?_ ?_
   .rw[eC]
    refine Ends.bl ?_
    refine bp [(0,au b),(1,aa n),(5,aa i),(6,aa (A+qa 0 (F x):Nat)),(10,aa x),(11,aa (0:Nat))] (fun l=>l=G4) ?_ ?_
    .simp[a,d,e,g,r,qa]
    rintro j G5 t rfl
    rw[eC]
    refine iv (fun y:Nat=>[(0,au b),(1,aa n),(5,aa i),(6,aa (A+qa y (F x):Nat)),(10,aa x),(11,aa y)]) (fun y G=>y<=n/\KA b c H (· =J) G) (fun y=>n-y) ?_ 0 t ⟨by omega,m⟩ fun _=>rfl
    rintro y j G⟨a,d,e,g,r,ab,_⟩⟨g3,m⟩
    by_cases O:y<n
    case neg=>
     have D:y=n:=by omega
     rw[D]at g
     simp[-ad0,a,d,e,r,ab,O]
     exact⟨g,m⟩
    have ad:adW.wrap ((y:Int)+1)=((y+1:Nat):Int):=cv (by omega)
    refine bp [(0,au b),(1,aa n),(5,aa i),(6,aa (A+qa y (F x):Nat)),(10,aa x),(11,aa y)] (fun l=>l=G) ?_ ?_
    .simp[-ad0,a,d,e,g,r,ab,O]
    rintro j G5⟨a,d,e,g,r,ab,_⟩rfl
    obtain⟨c3,q,j1,j2,rfl⟩:=m
    have aT:=am x y I (by omega)
    have aU:=al x y I O
    have aV:qa (y+1) (F x)=qa y (F x)+F x y:=rfl
    have⟨q6,c4,H4,ai,m1,Y,m3⟩:=Nj j1 x y (by have:=(q1.qw.oY I O).1;omega)
    have ao:(q.oY x y).length=F x y:=by rw[hF]
    have⟨B,hB⟩:=eg (A+qa y (F x))
    rw[hB]at g
    have aI:adW.wrap ((B:Int)+(F x y:Int))=((B+F x y:Nat):Int):=by rw[fw (by omega) (by omega)];omega
    have aJ:adW.wrap (B:Int)=(B:Int):=fw (by omega) (by omega)
    have aK:A+qa (y+1) (F x)=B+F x y:=by omega
    rcases m1 with⟨aL,rfl⟩|⟨h6,v6,rfl,_⟩
    .have h0:F x y=0:=by rw[<-ao,aL];rfl
     have aM:A+qa (y+1) (F x)=B:=by omega
     simp[-aD,-ad0,a,d,e,g,r,ab,ai,ad,aJ]
     exact⟨y+1,by omega,⟨by rw[aM],rfl⟩,by omega,c4,q,Y,j2.trans m3,rfl⟩
    .rw[ao]at ai
     simp[-aD,-ad0,a,d,e,g,r,ab,ai,ad,aI]
     exact⟨y+1,by omega,⟨by rw[aK],rfl⟩,by omega,c4,q,Y,j2.trans m3,rfl⟩
   .rintro j G⟨a,d,e,g,r,_⟩m
    simp[-ad0,a,d,e,g,r,ag]
    exact⟨x+1,by omega,⟨by rw[an],rfl⟩,by omega,m⟩
  rintro j G⟨a,d,e,g,_⟩⟨c3,q,j1,j2,rfl⟩
  have⟨ap,hZ⟩:=eg (qa n fun x=>qa n (F x))
  rw[hZ]at g
  by_cases Z:ap=0
  .have aN:∀x y,x<n->y<n->x≠y->Lf q x y=[]:=fun x y p D aP=>by
    have h1:=aoB (hZ.trans Z) x p
    have V:=aoB h1 y D
    rw[hF]at V
    exact(q1.qw.oY p D).2 aP (ae4 V)
   subst Z
   simp[a,d,e,g]
   exact⟨q,U,W,X,c3,j1,j2,q1,by omega,aN⟩
  .have aW:rR n (Lf q) U<rR n (Lf u) v:=by
    rcases q2 with q2|q2
    .exact q2
    .exfalso
     refine Z ?_
     rw[<-hZ]
     have:qa n (fun x=>qa n (F x))=qa n (fun _=>0):=anJ fun x p=>by
      have:qa n (F x)=qa n (fun _=>0):=anJ fun y D=>by
       rw[hF]
       show(q.oY x y).length=0
       unfold Cl.oY
       split
       .rename_i V
        have:=q2 x y p D fun ak=>V.2.2 (by rw[ak])
        simp only[ais]
        rw[show(q.tr x y).left=[]from this]
        rfl
       .rfl
      rw[this]
      exact anA fun _ _=>rfl
     rw[this]
     exact anA fun _ _=>rfl
   have aQ:¬(ap:Int)=0:=by omega
   simp[-ad0,a,d,e,g,Z,aQ,ar]
   exact⟨i+1,by omega,rfl,c3,q,j1,j2,U,⟨W,X,q1⟩,by omega⟩)
 exact⟨L,h,E,P,Q,R,dK (by simp) h1,V⟩
end
end
section
attribute [local simp] kn6 kr6 XB Z6 WE
section
variable{H:List Ob}{N:Nat}
def apu(w:Gr)(a b:Int)(c:w.bw.length<=400)(H:List Ob):aO tz ay 19 [.agg (bQ w),aa a,aa b] H=some (.aM [.agg (bQ (amQ w a b).1),aa (amQ w a b).2],H):=by have p:=q19 w a b c;have d:=jU w.bw;have e:=jU (amQ w a b).1.bw;simp only[bQ]at p|-;simp[show tz.md 19=1 from rfl,df,eX,d,p,ahw]
def apM(w:Gr)(b:fa w=true)(a:Int)(H:List Ob):aO tz ay 24 [.agg (bQ w),aa a] H=some (bd H.length 0 0 (GI w a).length,H++[ah 1 ((GI w a).map aC)]):=by have p:=q24 w b a;have c:=jU w.bw;have d:=bi (GI w a);simp only[bQ]at p|-;simp[show tz.md 24=0 from rfl,df,eX,c,p,ahw,d]
def aqR{l m:List Int}{h k:Nat}(a:H[h]?=some (ah 1 (l.map aC)))(b:H[k]?=some (ah 1 (m.map aC)))(e:l.length<=1000):aO tz ay 22 [bd h 0 0 l.length,bd k 0 0 m.length] H=some (aR (decide (l=m)),H):=by have p:=q22 l m e;have c:=um (lo:=0) (len:=l.length) a (by simp);have d:=um (lo:=0) (len:=m.length) b (by simp);rw[akn,acu (by simp)]at c d;have f:=zF (n:=5) a c (bi l);have g:=zF (n:=5) b d (bi m);simp[-bU,show tz.md 22=0 from rfl,df,f,g,p,ei,kj,fW]
def aqF{r:List ab}{x:Nd}(h:NdL N H r x)(c:x.dr.ai.af.length<=1000):aO tz ay 23 [.agg r] H=some (bd H.length 0 0 (amN x).length,H++[ah 1 ((amN x).map aC)]):=by have p:=q23 x c;have d:=bi (amN x);obtain⟨s,u,v,w,rfl,f,g,i,j⟩:=h.e;have k:=f.view (n:=5) (bK _);have m:=g.view (n:=5) (bV _);have o:=i.view (n:=5) (bR _);have q:=j.view (n:=5) (bR _);have a:=yS (H:=H) (n:=5) (Gf x.dr.need);have b:=yS (H:=H) (n:=5) (Gf x.told);simp only[aT,aG]at p a b;have t:∀l:List Int,gZ [8,4,2,2] (l.map aC)=true:=vz _ _ fun x=>rfl;simp[-bU,show tz.md 23=0 from rfl,df,eX,vI,k,m,o,q,a,b,p,ahw,ei,kj,fW,lH,t,d]
end
end
section
attribute [local simp] kn6 kr6 XB Z6 WE
section
variable{n T G:Nat}{K:Cl}{s C:Nat->Nat->Nat}
theorem DD.up{S:(Nat->Nd)->LL->Prop}{a:Nat}(h:DD S n G K s C T)(b:G<=a):DD S n a K s C T:=⟨⟨h.qw.l,h.qw.hn,h.qw.S,h.qw.w,fun x y=>ai5 (h.qw.c x y) b,ai5 h.qw.t b⟩,h.q⟩
def DD.to{S a:(Nat->Nd)->LL->Prop}(h:DD S n G K s C T)(b:a (Nf K) (Lf K)):DD a n G K s C T:=⟨⟨h.qw.l,h.qw.hn,b,h.qw.w,h.qw.c,h.qw.t⟩,h.q⟩
def aqm{w:Gr}{f:Cl}{a p e:Int}{ev:List Ev}{i:Nat}(c:fa w=true)(v:w.n<=5)(hn:w.n.toNat=n)(H:i<=30)(h:DD (Qu n (Eg w)) n (9090*i) K s C T)(hp:rR n (Lf K) s<=40*i)(z:K.bP a ⟨4,0,p,0,[]⟩ f ev e):
  ∃b g j k,(e=0/\(amQ w a p).2=0/\a<p/\b=(amQ w a p).1\/e≠0/\ ¬((amQ w a p).2=0/\a<p)/\b=w)/\anE n g/\DD g n (9090*(i+1)) f s j k/\rR n (Lf f) s<=40*(i+1)/\fa b=true/\b.n=w.n/\
   ∀l L,g l L->(∀x y,x<n->y<n->x≠y->L x y=[])->Qu n (Eg b) l L:=by
 have m:=vX c
 rw[hn]at m
 have I:n<=5:=by omega
 rcases apx h (by omega) (fun x y=>Eg.sy m) (Eg.ir m) z with⟨A,P,rfl,rfl,d,o,j,k,q,t⟩|⟨d,o,q,t⟩
 .have ⟨B,u,D,E,F⟩:=apV c v hn d
  have:=d.lt
  refine⟨B,amT n (Eg w) A P,j,k,.inl ⟨o,by rw[u],by omega,by rw[u]⟩,amT.closed d,q.up (by omega),by omega,D,E,fun l L r G=>(amT.end d r G).ext fun x y _ _=>(F x y).symm⟩
 .exact ⟨w,Qu n (Eg w),C,T,.inr ⟨o,ap6 c hn d,rfl⟩,Qu.closed,q.up (by omega),by rw[t];omega,c,rfl,fun _ _ r _=>r⟩
end
def LJ(g:Gr)(b p n i:Nat)(H:List Ob):Prop:= ∃c K s C T w,bJ H c b K/\DD (Qu n (Eg w)) n (9090*i) K s C T/\rR n (Lf K) s<=40*i/\H[p]?=some (ah 2 [bQ w])/\c p= .cl 10/\fa w=true/\w.n=g.n
theorem LJ.up{g:Gr}{b p n i:Nat}{H H':List Ob}(h:LJ g b p n i H)(e:H.length<=H'.length)(a:∀m,m<H.length->H'[m]?=H[m]?):LJ g b p n (i+1) H':=by have⟨c,K,s,C,T,w,f,j,r,d,k,l,o⟩:=h;have hp:=bf d;have q:aH (fun _=>False) c (ext c H.length .none) H H':=aH.of _ e fun m hm _=>a m hm;exact⟨ext c H.length .none,K,s,C,T,w,f.aK q fun _ h=>h.elim,j.up (by omega),by omega,by rw[a p hp];exact d,(jf hp).trans k,l,o⟩
def ap1(hA:aS tz ay 0 7 []=some (aR true,[]))(g:Gr)(r:mZ)(l:List LA):∃H',bB tz (ev tz) 6 [.agg (bQ g),.agg (fU r),bh (l.map cM)] []=some (aR true,H'):=by
 obtain⟨r',H',h1,rfl⟩:=cG (C:=tz) (f:=6) (args:=[.agg (bQ g),.agg (fU r),bh (l.map cM)]) (H:=[]) (fun r H'=>r=aR true) func6 rfl (by
  have V:=p8 g l;have hE:=jU g.bw;have hL:bA (l.map cM)=true:=jg _ (fun x=>Lg x) l;simp only[f6,cr];have aq:bQ g=[I g.n,.aj (g.bw.map j7)]:=rfl;have⟨E,bd⟩:=eg (g.bw.map j7);have⟨R,hR⟩:=eg (l.map cM);have D:R.length=l.length:=by rw[<-hR];simp
  have be:∀ar (P:ar<l.length),R[ar]?=some (cM l[ar]):=fun ar P=>by rw[<-hR,adf,abM P];rfl
  rw[bd]at hE aq;rw[hR]at hL V|-;rw[aq]at V|-;refine bp [(3,.c (.aJ [[I g.n,.aj E]] 0 0)),(4,.c (.aJ [fU r] 0 0)),(2,bh R)] (fun G=>G=[]) ?_ ?_
  .simp[hE,fU]
  rintro z G⟨e,W,j,_⟩rfl;cases hf:rD g l with
  |false=>rw[hf]at V;simp[e,W,j,hA,V,hE,hL]
  |true=>
  rw[hf]at V;have⟨hg,g5,hl,bY⟩:=afJ hf;by_cases c1:(30:Int)< (l.length:Int)
  .simp[e,W,j,hA,V,hE,hL,D,c1]
  simp only[fU]at W|-;by_cases c2:r.fy<1
  .simp[e,W,j,hA,V,hE,hL,D,c1,c2]
  by_cases c3:r.room<8
  .simp[e,W,j,hA,V,hE,hL,D,c1,c2,c3]
  refine bp [(3,.c (.aJ [[I g.n,.aj E]] 0 0)),(4,.c (.aJ [fU r] 0 0)),(2,bh R)] (fun G=>G=[]) ?_ ?_
  .simp[e,W,j,hA,V,hE,hL,D,c1,c2,c3,fU]
  rintro z G⟨e,W,j,_⟩rfl;have⟨cl,bZ,hc,bg,bi,aX⟩:=S9 (vX hg);have bk:g.bw.length<=400:=((nD g).1 hg).2.2.1;have aY:=c17 [] g bk;have⟨b,cc,H1,aE,k1,_⟩:=adK r hg hc bg bi aX [] (fun _=> .cl 10);have⟨rs,aF⟩:=aqn hg (r:=r) aX (by omega) (by omega);rw[aq]at aE aY;simp only[fU]at W aE;refine bp [(3,.c (.aJ [[I g.n,.aj E]] 0 0)),(2,bh R),(7,au b),(8,aa 0)] (fun G=>G=H1) ?_ ?_
  .simp[-aD,e,W,j,aY,aE]
  rintro z G⟨e,j,u,a8,_⟩rfl;refine bp [(3,.c (.aJ [[I g.n,.aj E]] 0 0)),(2,bh R),(7,au b)] (fun t=>t=G) ?_ ?_
  .have ⟨rr,bn⟩:=k1.ob;simp[-getElem?_pos,e,j,u,a8,adY,bn,ll]
  rintro z Z⟨e,j,u,_⟩rfl;have⟨p,hp⟩:=eg Z.length;have⟨n,hn⟩:=eg g.n.toNat;rw[hn]at rs aF;have aI:∀X:Ob,(Z++[X])[p]?=some X:=fun X=>by rw[<-hp];simp
  have aZ:∀X Y:Ob,(Z++[X]).set p Y=Z++[Y]:=fun X Y=>by rw[<-hp];simp
  refine bp [(3,.c (.aJ [[I g.n,.aj E]] 0 0)),(2,bh R),(7,au b),(9,au p)] (fun t=>t=Z++[ah 2 [[I g.n,.aj E]]]) ?_ ?_
  .simp[-getElem?_pos,e,j,u,hp,aI,aZ]
  rintro z G2⟨e,j,u,o,_⟩rfl
  have a0:LJ g b p n 0 (Z++[ah 2 [[I g.n,.aj E]]]):=by
   have st:aH (fun _=>False) cc (ext cc p (.cl 10)) Z (Z++[ah 2 [[I g.n,.aj E]]]):=by rw[<-hp];exact aH.of _ (by simp) fun m hm _=>abE hm
   refine⟨ext cc p (.cl 10),_,_,_,_,g,k1.aK st (fun _ h=>h.elim),rs,by rw[aF];omega,by rw[aq];exact aI _,jr (ad3 _),hg,rfl⟩
  have⟨G2,bo⟩:=eg (Z++[ah 2 [[I g.n,.aj E]]]);rw[bo]at a0|-;clear k1 aI aZ rs aF;refine bp [(3,.c (.aJ [[I g.n,.aj E]] 0 0)),(7,au b),(9,au p)] (fun G=>LJ g b p n l.length G) ?_ ?_
  .refine bp [(3,.c (.aJ [[I g.n,.aj E]] 0 0)),(2,bh R),(7,au b),(9,au p),(10,aa (0:Nat))] (fun t=>t=G2) ?_ ?_
   .simp[e,j,u,o]
   rintro z G3 g1 rfl;rw[eC];refine iv (fun i:Nat=>[(3,.c (.aJ [[I g.n,.aj E]] 0 0)),(2,bh R),(7,au b),(9,au p),(10,aa i)]) (fun i G=>i<=l.length/\LJ g b p n i G) (fun i=>l.length-i) ?_ 0 g1 ⟨by omega,a0⟩ fun _=>rfl;rintro i z G ⟨e,j,u,o,y,_⟩ ⟨g2,P⟩;by_cases d:i<l.length
   case neg=>
    have hi:i=l.length:=by omega
    rw[hi]at P;simp[e,j,u,o,y,D,d];exact P
   have aL:adW.wrap ((i:Int)+1)=((i+1:Nat):Int):=cv (by omega);have J:=be i d;have ab:i<R.length:=by omega
   have⟨x,hx⟩:=eg l[i];rw[hx]at J;simp only[cM]at J;have⟨ad,bq⟩:=eg (aG x.d.need);rw[bq]at J;refine bp [(3,.c (.aJ [[I g.n,.aj E]] 0 0)),(2,bh R),(7,au b),(9,au p),(10,aa i)] (fun t=>t=G) ?_ ?_
   .simp[e,j,u,o,y,D,d]
   rintro z L⟨e,j,u,o,y,_⟩rfl;refine bp [(3,.c (.aJ [[I g.n,.aj E]] 0 0)),(2,bh R),(7,au b),(9,au p),(10,aa i)] (fun G=>LJ g b p n (i+1) G) ?_ ?_
   .rw[eC];refine Ends.bl ?_;have⟨q,F⟩:=eg L.length;have aM:∀X:Ob,(L++[X])[q]?=some X:=fun X=>by rw[<-F];simp
    have a1:∀X Y:Ob,(L++[X]).set q Y=L++[Y]:=fun X Y=>by rw[<-F];simp
    refine bp [(3,.c (.aJ [[I g.n,.aj E]] 0 0)),(2,bh R),(7,au b),(9,au p),(10,aa i),(11,au q)] (fun t=>t=L++[ah 5 [[I x.d.kind,I x.d.id,I x.d.peer,I x.d.hold,ad]]]) ?_ ?_
    .simp[-getElem?_pos,e,j,u,o,y,D,ab,d,J,F,aM,a1]
    rintro z Q⟨e,j,u,o,y,M,_⟩rfl;have aN:=P.up (H':=L++[ah 5 [[I x.d.kind,I x.d.id,I x.d.peer,I x.d.hold,ad]]]) (by simp) fun m hm=>abE hm;have kq:=aM (ah 5 [[I x.d.kind,I x.d.id,I x.d.peer,I x.d.hold,ad]]);by_cases hK:x.K=0
    case neg=>simp[-getElem?_pos,e,j,u,o,y,M,D,ab,d,J,hK];exact aN
    by_cases hk:x.d.kind=4
    case neg=>simp[-getElem?_pos,e,j,u,o,y,M,D,ab,d,J,hK,kq,hk];exact aN
    obtain⟨c5,K,s,C,T,w,k1,N,k3,k4,k5,k6,k7,br⟩:∃c K s C T w,bJ (L++[ah 5 [[I x.d.kind,I x.d.id,I x.d.peer,I x.d.hold,ad]]]) c b K/\DD (Qu n (Eg w)) n (9090*i) K s C T/\rR n (Lf K) s<=40*i/\(L++[ah 5 [[I x.d.kind,I x.d.id,I x.d.peer,I x.d.hold,ad]]])[p]?=some (ah 2 [bQ w])/\c p= .cl 10/\fa w=true/\w.n=g.n/\c q= .cl 10:=by have⟨c,K,s,C,T,w,h1,h2,h3,h4,h5,h6,h7⟩:=P;have st:aH (fun _=>False) c (ext c L.length (.cl 10)) L (L++[ah 5 [[I x.d.kind,I x.d.id,I x.d.peer,I x.d.hold,ad]]]):=aH.of _ (by simp) fun m hm _=>abE hm;have ae:=bf h4;exact⟨_,K,s,C,T,w,h1.aK st fun _ h=>h.elim,h2,h3,by rw[abE ae];exact h4,(jf ae).trans h5,h6,h7,jr (by omega)⟩
    clear aN P aM a1;have⟨H5,bs⟩:=eg (L++[ah 5 [[I x.d.kind,I x.d.id,I x.d.peer,I x.d.hold,ad]]]);rw[bs]at k1 k4 kq|-;refine bp [(3,.c (.aJ [[I g.n,.aj E]] 0 0)),(2,bh R),(7,au b),(9,au p),(10,aa i),(11,au q)] (fun t=>t=H5) ?_ ?_
    .simp[-getElem?_pos,e,j,u,o,y,M,D,ab,d,J,hK,kq,hk]
    rintro z Q⟨e,j,u,o,y,M,_⟩rfl;have bt:∀i (h:i<K.nodes.length),dm K.nodes[i]=true:=fun i hi=>by have:=(N.qw.S.1 i (by rw[<-N.qw.hn];exact hi)).ok;change dm (K.nodes.getD i .zero)=true at this;rwa [ae5,abM hi]at this
    have⟨c6,H6,K6,ev,aP,le,bu,m0,_,m2,m3⟩:=Rt k1 N.qw.w.i N.qw.w.n N.qw.w.t (by have:=N.qw.t;omega) x.A ⟨4,0,x.d.peer,0,[]⟩ (nl:=eW) rfl rfl bt fun n v h=>wG.a _ _ _ h;have⟨p1,p2⟩:=m3.get k4 (by rw[k5];simp[Lw]);have⟨q1,q2⟩:=m3.get kq (by rw[br];simp[Lw]);rw[k5]at p2;refine bp [(3,.c (.aJ [[I g.n,.aj E]] 0 0)),(2,bh R),(7,au b),(9,au p),(10,aa i),(11,au q),(13,aa aP)] (fun t=>t=H6) ?_ ?_
    .simp[-aD,-getElem?_pos,e,j,u,o,y,M,D,ab,d,J,kq,bu]
    rintro z B⟨e,j,u,o,y,M,ag,_⟩rfl;have ao:=apu w x.A x.d.peer ((nD w).1 k6).2.2.1;have av:g.n=(n:Int):=by have:=((nD g).1 hg).1;omega
    have⟨w',S',C',T',aQ,bv,bx,aw,bz,bC,bD⟩:=aqm (n:=n) k6 (by omega) (by rw[k7];exact hn) (by omega) N k3 m0;have fin:∀H8 c8,bJ H8 c8 b K6->H8[p]?=some (ah 2 [bQ w'])->c8 p= .cl 10->∃H9,aO tz ay 20 [au b,aa n] H8=some (aR true,H9)/\LJ g b p n (i+1) H9:=fun H8 c8 h1 h2 h3=>by have⟨H9,K9,s9,C9,T9,c9,bj,bm,f3,f4,f5,f6⟩:=c20 bv (by omega) (by omega) h1 bx (by omega);have⟨z1,z2⟩:=f3.get h2 (by rw[h3];simp[Lw]);exact⟨H9,bj,c9,K9,s9,C9,T9,w',bm,f4.to (bD _ _ f4.qw.S f6),by omega,z1,z2.trans h3,bz,bC.trans k7⟩
    simp only[bQ]at ao p1 fin;have⟨ap,hz⟩:=eg B.length;have⟨O,bE⟩:=eg (amQ w x.A x.d.peer);rw[bE]at ao aQ;have⟨EW,ax⟩:=eg (w.bw.map j7);have⟨EN,a2⟩:=eg (O.1.bw.map j7);rw[ax]at ao p1;rw[a2]at ao;have a3:∀X:Ob,(B++[X])[ap]?=some X:=fun X=>by rw[<-hz];simp
    have bF:∀X Y:Ob,(B++[X]).set ap Y=B++[Y]:=fun X Y=>by rw[<-hz];simp
    have bG:∀X:Ob,(B++[X])[p]?=some (ah 2 [[I w.n,.aj EW]]):=fun X=>by rw[abE (bf p1)];exact p1
    have bH:∀X:Ob,(B++[X])[q]?=some (ah 5 [[I x.d.kind,I x.d.id,I x.d.peer,I x.d.hold,ad]]):=fun X=>by rw[abE (bf q1)];exact q1
    refine bp [(3,.c (.aJ [[I g.n,.aj E]] 0 0)),(2,bh R),(7,au b),(9,au p),(10,aa i),(11,au q),(13,aa aP),(14,.c (.ptr ap 1 0 0)),(15,aa O.2)] (fun t=>t=B++[Ob.live 1 2 [[I O.1.n,.aj EN]]]) ?_ ?_
    .simp[-aD,-getElem?_pos,e,j,u,o,y,M,ag,D,ab,d,J,ny,gO,iQ,bG,bH,ao,hz,a3,bF]
    rintro z G7⟨e,j,u,o,y,M,ag,ak,aT,_⟩rfl;have ae:=bf p1;have zq:(B++[Ob.live 1 2 [[I O.1.n,.aj EN]]])[q]?=some (ah 5 [[I x.d.kind,I x.d.id,I x.d.peer,I x.d.hold,ad]]):=by rw[abE (bf q1)];exact q1
    have zp:(B++[Ob.live 1 2 [[I O.1.n,.aj EN]]])[p]?=some (ah 2 [[I w.n,.aj EW]]):=by rw[abE ae];exact p1
    have zz:=a3 (Ob.live 1 2 [[I O.1.n,.aj EN]]);refine bp [(3,.c (.aJ [[I g.n,.aj E]] 0 0)),(2,bh R),(7,au b),(9,au p),(10,aa i),(13,aa aP),(14,.c (.ptr ap 1 0 0))] (fun t=>t=B++[Ob.live 1 2 [[I O.1.n,.aj EN]]]) ?_ ?_
    .rcases aQ with⟨he,al,az,_⟩|⟨he,a4,_⟩
     .simp[-getElem?_pos,e,j,u,o,y,M,ag,ak,aT,D,ab,d,J,zq,he,al,az]
     .by_cases al:O.2=0
      .have az:¬x.A<x.d.peer:=fun h=>a4 ⟨al,h⟩;simp[-getElem?_pos,e,j,u,o,y,M,ag,ak,aT,D,ab,d,J,zq,he,al,az]
      .simp[-getElem?_pos,e,j,u,o,y,M,ag,ak,aT,D,ab,d,J,zq,he,al]
    rintro z G7⟨e,j,u,o,y,ag,ak,_⟩rfl;refine bp [(3,.c (.aJ [[I g.n,.aj E]] 0 0)),(2,bh R),(7,au b),(9,au p),(10,aa i)] (fun t=>∃c8,bJ t c8 b K6/\t[p]?=some (ah 2 [[I w'.n,.aj (w'.bw.map j7)]])/\c8 p= .cl 10) ?_ ?_
    .rcases aQ with⟨he,al,az,rfl⟩|⟨he,a4,rfl⟩
     .simp[-getElem?_pos,e,j,u,o,y,ag,ak,zz,zp,he];have st:aH (· = .cl 10) c6 (ext c6 B.length (.cl 10)) B ((B++[Ob.live 1 2 [[I O.1.n,.aj EN]]]).set p (ah 2 [[I O.1.n,.aj EN]])):=aH.of _ (by simp) fun m hm hc=>by rw[aat (fun h=>hc (by rw[<-h];exact p2)),abE hm]
      exact⟨_,m2.aK st fun x h=>by rw[h];simp[Lw],by rw[a2];exact ba zp,(jf ae).trans p2⟩
     .simp[-getElem?_pos,e,j,u,o,y,ag,ak,he];have st:aH (· = .cl 10) c6 (ext c6 B.length (.cl 10)) B (B++[Ob.live 1 2 [[I O.1.n,.aj EN]]]):=aH.of _ (by simp) fun m hm hc=>abE hm;exact⟨_,m2.aK st fun x h=>by rw[h];simp[Lw],by rw[ax];exact zp,(jf ae).trans p2⟩
    rintro z G8⟨e,j,u,o,y,_⟩⟨c8,y1,y2,y3⟩;have⟨H9,bI,y4⟩:=fin G8 c8 y1 y2 y3;rw[av]at e;simp[-aD,-getElem?_pos,e,j,u,o,y,bI,av];exact y4
   .rintro z G⟨e,j,u,o,y,_⟩P;simp[-ad0,e,j,u,o,y,aL];exact⟨i+1,by omega,rfl,by omega,P⟩
  .rintro z G⟨e,u,o,_⟩⟨c,K,s,C,T,w,k1,N,k3,k4,k5,k6,k7⟩;have a5:=N.qw.hn;have av:g.n=(n:Int):=by have:=((nD g).1 hg).1;omega
   have a6:∀x∈K.nodes,fu x:=fun x hx=>by obtain⟨i,hi,rfl⟩:=alH hx;exact N.qw.w.n.s i hi
   have⟨q,H2,bK,n1,n2,n3⟩:=c21 k1 (by omega) a6;have a7:=N.qw.S;have ae:=bf k4;have p2:H2[p]?=some (ah 2 [bQ w]):=by rw[n3 p ae];exact k4
   have⟨bL,hN⟩:=eg G.length;rw[hN]at n1;have bM:=n1;have⟨F,v,rows,r1,a9,r3,r4,r5⟩:=bM;rw[a5]at a9;refine bp [(3,.c (.aJ [[I g.n,.aj E]] 0 0)),(9,au p),(16,.c (.sl F v 0 n))] (fun t=>t=H2) ?_ ?_
   .simp[-aD,e,u,o,bK,a9]
   rintro z G2⟨e,o,U,_⟩rfl;refine bp [(3,.c (.aJ [[I g.n,.aj E]] 0 0)),(16,.c (.sl F v 0 n))] (fun _=>True) ?_ ?_
   .refine bp [(3,.c (.aJ [[I g.n,.aj E]] 0 0)),(9,au p),(16,.c (.sl F v 0 n)),(17,aa (0:Nat))] (fun t=>t=G2) ?_ ?_
    .simp[e,o,U]
    rintro z G3 g1 rfl;rw[eC];refine iv (fun i:Nat=>[(3,.c (.aJ [[I g.n,.aj E]] 0 0)),(9,au p),(16,.c (.sl F v 0 n)),(17,aa i)]) (fun i t=>i<=n/\G3.length<=t.length/\∀m,m<G3.length->t[m]?=G3[m]?) (fun i=>n-i) ?_ 0 g1 ⟨by omega,ad3 _,fun _ _=>rfl⟩ fun _=>rfl;rintro i z t ⟨e,o,U,am,_⟩ ⟨g2,g3,g4⟩;by_cases d:i<n
    case neg=>simp[e,o,U,am,d]
    have aL:adW.wrap ((i:Int)+1)=((i+1:Nat):Int):=cv (by omega);refine bp [(3,.c (.aJ [[I g.n,.aj E]] 0 0)),(9,au p),(16,.c (.sl F v 0 n)),(17,aa i)] (fun bN=>bN=t) ?_ ?_
    .simp[e,o,U,am,d]
    rintro z Q⟨e,o,U,am,_⟩rfl;refine bp [(3,.c (.aJ [[I g.n,.aj E]] 0 0)),(9,au p),(16,.c (.sl F v 0 n)),(17,aa i)] (fun t=>G3.length<=t.length/\∀m,m<G3.length->t[m]?=G3[m]?) ?_ ?_
    .rw[eC];refine Ends.bl ?_;have aU:i<K.nodes.length:=by omega
     have⟨x,hx⟩:=eg K.nodes[i];have bO:Nf K i=x:=by show K.nodes.getD i .zero=x;rw[ae5,abM aU,hx];rfl
     have bb:=apv k6 (by rw[k7];exact hn) a7 d;have aw:=(a7.1 i d).ph;rw[bO]at bb aw;have⟨row,w1,w2⟩:=r5 i aU;have bP:=bf w1;rw[hx]at w2;have w3:NdL bL Q row x:=w2.aK fun m v ap r h1 h2 h3=>g4 m (bf h3);have bc:x.dr.ai.af.length<=1000:=by have:=(a6 x (by rw[<-hx];exact aix aU)).si;omega
     have aA:=aqF w3 bc;have bR:(amN x).length<=1000:=by unfold amN;rw[aio];exact ai5 (aiq _ _) bc
     have bS:amN x=GI w i:=bb;have an:=apM w k6 i (Q++[ah 1 ((amN x).map aC)]);have aV:Q[F]?=some (.live v 10 rows):=by rw[g4 F (bf r3)];exact r3
     have bT:∀X,(Q++X)[F]?=some (.live v 10 rows):=fun X=>by rw[abE (bf aV)];exact aV
     have aW:Q[p]?=some (ah 2 [bQ w]):=by rw[g4 p (bf p2)];exact p2
     have aB:=aqR (H:=Q++[ah 1 ((amN x).map aC)]++[ah 1 ((GI w i).map aC)]) (l:=amN x) (m:=GI w i) (h:=Q.length) (k:=(Q++[ah 1 ((amN x).map aC)]).length) (by simp) (by simp) bR;rw[bS]at aB aA an;have⟨s1,s2,s3,s4,bU,_⟩:=w2.e;subst bU;simp only[bQ]at an aW;have⟨EW,ax⟩:=eg (w.bw.map j7);rw[ax]at an aW;have⟨X1,bV⟩:=eg ((GI w i).map aC);rw[bV]at aB aA an;simp only[aiu,ai7,aiD,agc,aip,aiQ]at aB an;simp only[aG,aw]at w1 aA;simp[-aD,-getElem?_pos,e,o,U,am,d,aV,bT,aW,w1,bP,r4,a5,aA,an,aB,aw];exact⟨by omega,fun m hm=>by rw[abE (by omega)];exact g4 m hm⟩
    .rintro z G⟨e,o,U,am,_⟩⟨bW,bX⟩;simp[-ad0,e,o,U,am,aL];exact⟨i+1,by omega,rfl,by omega,bW,bX⟩
   .rintro z t⟨e,U,_⟩_;simp[e,U,av])
 exact⟨H',h1⟩
end
def kA:Reads aaG 3 (fun n:Int=>[.v (.int .i64 n)]) (fun n=>(Lit.int .i64 n).wf=true):=RQ underlying3
def aaa:Reads aaG 34 (fun n:Int=>[.v (.int .i64 n)]) (fun n=>(Lit.int .i64 n).wf=true):=RQ underlying34
def H7:aaG.cellsOf 3=1:=by kernel_rfl
def W5:aaG.cellsOf 34=1:=by kernel_rfl
def ahb:Reads aaG 112 j7 (fun _=>True):=by refine xb underlying112 (by kernel_rfl:aaG.cellsOf 112=2) (fun H b W c d m cs f e=>?_);have⟨l,g⟩:=e 0 _ rfl;have⟨h,n,a⟩:=kA H b W c d m _ _ g;change aY _ _ (ajr (aaG.cellsOf 3) (ajs 0 cs))at a;rw[H7]at a;have⟨p,i⟩:=e 1 _ rfl;have⟨j,q,c1⟩:=kA H b W c d m _ _ i;change aY _ _ (ajr (aaG.cellsOf 3) (ajs 1 cs))at c1;rw[H7]at c1;refine⟨⟨h,j⟩,trivial,?_⟩;have:=(jw (o:=0) (k:=1) a (jw (o:=1) (k:=1) c1 (xz f)));exact this
def VW:Reads aaG 22 (fun l:List Edge=>[.aj (l.map j7)]) (fun l=>(l.length<=maxLen/\∀y∈l,True)):=I4 underlying22 ahb (by kernel_rfl:aaG.cellsOf 112=2) (by decide) (fun _=>rfl)
def Tu:aaG.cellsOf 22=1:=by kernel_rfl
def YC:Reads aaG 24 bQ (fun _=>True):=by refine xb underlying24 (by kernel_rfl:aaG.cellsOf 24=2) (fun H b W c d m cs f e=>?_);have⟨l,g⟩:=e 0 _ rfl;have⟨h,n,a⟩:=kA H b W c d m _ _ g;change aY _ _ (ajr (aaG.cellsOf 3) (ajs 0 cs))at a;rw[H7]at a;have⟨p,i⟩:=e 1 _ rfl;have⟨j,q,c1⟩:=VW H b W c d m _ _ i;change aY _ _ (ajr (aaG.cellsOf 22) (ajs 1 cs))at c1;rw[Tu]at c1;refine⟨⟨h,j⟩,trivial,?_⟩;have:=(jw (o:=0) (k:=1) a (jw (o:=1) (k:=1) c1 (xz f)));exact this
def agn:Reads aaG 26 fU (fun _=>True):=by refine xb underlying26 (by kernel_rfl:aaG.cellsOf 26=5) (fun H a W b c m cs f d=>?_);have⟨t,g⟩:=d 0 _ rfl;have⟨h,u,e⟩:=kA H a W b c m _ _ g;change aY _ _ (ajr (aaG.cellsOf 3) (ajs 0 cs))at e;rw[H7]at e;have⟨v,i⟩:=d 1 _ rfl;have⟨j,w,c1⟩:=kA H a W b c m _ _ i;change aY _ _ (ajr (aaG.cellsOf 3) (ajs 1 cs))at c1;rw[H7]at c1;have⟨x,l⟩:=d 2 _ rfl;have⟨n,y,c2⟩:=kA H a W b c m _ _ l;change aY _ _ (ajr (aaG.cellsOf 3) (ajs 2 cs))at c2;rw[H7]at c2;have⟨z,p⟩:=d 3 _ rfl;have⟨q,A,c3⟩:=kA H a W b c m _ _ p;change aY _ _ (ajr (aaG.cellsOf 3) (ajs 3 cs))at c3;rw[H7]at c3;have⟨B,r⟩:=d 4 _ rfl;have⟨s,C,c4⟩:=kA H a W b c m _ _ r;change aY _ _ (ajr (aaG.cellsOf 3) (ajs 4 cs))at c4;rw[H7]at c4;refine⟨⟨h,j,n,q,s⟩,trivial,?_⟩;have:=(jw (o:=0) (k:=1) e (jw (o:=1) (k:=1) c1 (jw (o:=2) (k:=1) c2 (jw (o:=3) (k:=1) c3 (jw (o:=4) (k:=1) c4 (xz f))))));exact this
def Xd:Reads aaG 30 (fun l:List Int=>[aG l]) (fun l=>(l.length<=maxLen/\∀y∈l,(Lit.int .i64 y).wf=true)):=I4 underlying30 kA H7 (by decide) (fun _=>rfl)
def WR:aaG.cellsOf 30=1:=by kernel_rfl
def XL(x:Act):List ab:=[I x.kind,I x.id,I x.peer,I x.hold,aG x.need]
def ahk:Reads aaG 36 XL (fun _=>True):=by refine xb underlying36 (by kernel_rfl:aaG.cellsOf 36=5) (fun H a W b c m cs f d=>?_);have⟨t,g⟩:=d 0 _ rfl;have⟨h,u,e⟩:=aaa H a W b c m _ _ g;change aY _ _ (ajr (aaG.cellsOf 34) (ajs 0 cs))at e;rw[W5]at e;have⟨v,i⟩:=d 1 _ rfl;have⟨j,w,c1⟩:=kA H a W b c m _ _ i;change aY _ _ (ajr (aaG.cellsOf 3) (ajs 1 cs))at c1;rw[H7]at c1;have⟨x,l⟩:=d 2 _ rfl;have⟨n,y,c2⟩:=kA H a W b c m _ _ l;change aY _ _ (ajr (aaG.cellsOf 3) (ajs 2 cs))at c2;rw[H7]at c2;have⟨z,p⟩:=d 3 _ rfl;have⟨q,A,c3⟩:=kA H a W b c m _ _ p;change aY _ _ (ajr (aaG.cellsOf 3) (ajs 3 cs))at c3;rw[H7]at c3;have⟨B,r⟩:=d 4 _ rfl;have⟨s,C,c4⟩:=Xd H a W b c m _ _ r;change aY _ _ (ajr (aaG.cellsOf 30) (ajs 4 cs))at c4;rw[WR]at c4;refine⟨⟨h,j,n,q,s⟩,trivial,?_⟩;have:=(jw (o:=0) (k:=1) e (jw (o:=1) (k:=1) c1 (jw (o:=2) (k:=1) c2 (jw (o:=3) (k:=1) c3 (jw (o:=4) (k:=1) c4 (xz f))))));exact this
def adl:aaG.cellsOf 36=5:=by kernel_rfl
def af0:Reads aaG 38 cM (fun _=>True):=by refine xb underlying38 (by kernel_rfl:aaG.cellsOf 38=10) (fun H a W b c m cs f d=>?_);have⟨v,g⟩:=d 0 _ rfl;have⟨h,w,e⟩:=kA H a W b c m _ _ g;change aY _ _ (ajr (aaG.cellsOf 3) (ajs 0 cs))at e;rw[H7]at e;have⟨x,i⟩:=d 1 _ rfl;have⟨j,y,c1⟩:=kA H a W b c m _ _ i;change aY _ _ (ajr (aaG.cellsOf 3) (ajs 1 cs))at c1;rw[H7]at c1;have⟨z,l⟩:=d 2 _ rfl;have⟨n,A,c2⟩:=kA H a W b c m _ _ l;change aY _ _ (ajr (aaG.cellsOf 3) (ajs 2 cs))at c2;rw[H7]at c2;have⟨B,p⟩:=d 3 _ rfl;have⟨q,C,c3⟩:=kA H a W b c m _ _ p;change aY _ _ (ajr (aaG.cellsOf 3) (ajs 3 cs))at c3;rw[H7]at c3;have⟨D,r⟩:=d 4 _ rfl;have⟨s,E,c4⟩:=kA H a W b c m _ _ r;change aY _ _ (ajr (aaG.cellsOf 3) (ajs 4 cs))at c4;rw[H7]at c4;have⟨F,t⟩:=d 5 _ rfl;have⟨u,G,c5⟩:=ahk H a W b c m _ _ t;change aY _ _ (ajr (aaG.cellsOf 36) (ajs 5 cs))at c5;rw[adl]at c5;refine⟨⟨h,j,n,q,s,u⟩,trivial,?_⟩;have:=(jw (o:=0) (k:=1) e (jw (o:=1) (k:=1) c1 (jw (o:=2) (k:=1) c2 (jw (o:=3) (k:=1) c3 (jw (o:=4) (k:=1) c4 (jw (o:=5) (k:=5) c5 (xz f)))))));exact this
def TA:Reads aaG 27 (fun l:List LA=>[.aj (l.map cM)]) (fun l=>(l.length<=maxLen/\∀y∈l,True)):=I4 underlying27 af0 (by kernel_rfl:aaG.cellsOf 38=10) (by decide) (fun _=>rfl)
end Go.Nx
