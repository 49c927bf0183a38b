/- A part of the proof. -/
import Derived.Test.YtndifkmolciiaaaGreatDoorX01
set_option linter.all false
set_option maxRecDepth 8000
set_option maxHeartbeats 1000000
open BitVec renaming ofInt->aje
open Go.IntKind renaming i64->ads,u32->ajQ,u64->aiS,u8->aja
open Go.Proofs.Tryz renaming prog->aaD
open Int renaming natCast_add->ac7
open List renaming append_assoc->aio,getElem?_eq_getElem->aae,getElem?_set_self->afN,length_append->afu,length_drop->ajV,map_append->agA,map_map->ai6,map_set->aix,map_take->akH,replicate->ago,take->ajo
open Nat renaming beq->ajt,ble->ak1
open UInt8 renaming ofNat->alU
namespace Go.Nx
open Go Go.Proofs Tryz
section
variable [W]
variable{g:FuncId}{caps:List ab}
def fX{α:Type}(p:Nat->α->Bool):Nat->List α->Int
 |_,[]=> -1
 |k,x::r=>if p k x then k else fX p (k+1) r
def jj{α:Type}(p:Nat->α->Bool):Nat->List α->Nat
 |k,[]=>k
 |k,x::r=>if p k x then k+1 else jj p (k+1) r
def BD{α:Type}(p:α->Bool):∀(l:List α) (k:Nat),fX (fun _=>p) k l=dw p k l
 |[],k=>rfl
 |x::r,k=>by simp only[fX,dw,BD p r]
variable{α:Type}{row:α->List ab}{arg:α->au}{f bm n:Nat}
def pk(f:Nat)(row:α->List ab)(arg:α->au):Prop:=(∃n,(f,n)∈ [(109,8),(251,2),(256,4),(332,2)]/\∀x,(row x).length=n/\arg x= .agg (row x))\/f=235/\∀x, ∃a,row x=[a]/\arg x= .c a
def OQ(t:pk f row arg)(l:List α)(hm:l.length<=maxLen)(J:Nat->List Ob->Prop)(p:Nat->α->Bool)
  (hc:∀k (d:k<l.length) H,J k H->∃h,aO tz ay g (arg l[k]::caps.map .c) H=some (aR (p k l[k]),h)/\J (k+1) h) (H:List Ob) (z:J 0 H):
  ∃h,bB tz (ev tz) f [bh (l.map row),.c (.bG g caps)] H=some (aa (fX p 0 l),h)/\J (jj p 0 l) h:=by
 simp only[pk,ae3,aca,aiP,or_false]at t
 rcases t with⟨n,⟨rfl,rfl⟩|⟨rfl,rfl⟩|⟨rfl,rfl⟩|⟨rfl,rfl⟩,u⟩|⟨rfl,u⟩
 all_goals
  refine gv (by first|exact func109|exact func235|exact func251|exact func256|exact func332) rfl ?_
  simp[-aD,f109,f235,f251,f256,f332,underlying59,underlying30,underlying68,underlying65,underlying22]
  refine ia (fun k:Nat=>[(7,aa l.length),(8,aa k),(0,bh (l.map row)),(1,.c (.bG g caps))]) (fun k H=>J k H/\k<=l.length/\fX p 0 l=fX p k (l.drop k)/\jj p 0 l=jj p k (l.drop k)) (fun k=>l.length-k) ?_ 0 (by simp) (by simpa using z) fun _=>rfl
  rintro k e H⟨o,q,v,w,_⟩⟨x,B,i,j⟩
  by_cases d:k<l.length
  .have A:ads.wrap ((k:Int)+1)=((k+1:Nat):Int):=cr (by unfold maxLen at hm;omega)
   rw[afv d]at i j
   have⟨h,m,y⟩:=hc k d H x
   have b:=u l[k]
   first
   |have⟨b,r⟩:=b
    have s:=ach (aj3 b)
   |have⟨a,b,r⟩:=b
    have s:=r
   rw[r]at m
   cases hp:p k l[k]with
   |true=>
    rw[hp]at m
    simp[-aD,o,q,v,w,d,m,b,s]
    simp[i,j,fX,jj,hp]
    exact y
   |false=>
    rw[hp]at m
    simp[-aD,o,q,v,w,d,m,A,b,s]
    exact⟨k+1,by omega,by simp,y,by omega,by simpa[fX,hp]using i,by simpa[jj,hp]using j⟩
  .simp[-aD,o,q,d]
   obtain rfl:k=l.length:=by omega
   rw[aip (adt _)]at i j
   rw[i,j]
   exact⟨rfl,x⟩
def pJ(hF:pk f row arg)(l:List α)(hm:l.length<=maxLen)(p:α->Bool)(hc:∀x∈l,aO tz ay g (arg x::caps.map .c) []=some (aR (p x),[])):
  aS tz ay 0 f [bh (l.map row),.c (.bG g caps)]=some (aa (dw p 0 l),[]):=by
 unfold aS ay
 obtain⟨a,d,rfl⟩:=OQ (caps:=caps) hF l hm (fun _ a=>a=[]) (fun _=>p) (fun k e a b=>⟨a,by subst b;exact hc _ (air e),b⟩) [] rfl
 rw[d,BD]
 rfl
def pd(f bm:Nat):Prop:=(f,bm)∈ [(171,109),(178,251),(187,256),(292,332),(152,235)]
def pC(hA:pd f bm)(hF:pk bm row arg)(l:List α)(hm:l.length<=maxLen)(p:α->Bool)(a:tz.md g≠3)(b:cw caps=true)(d:bA (l.map row)=true)(hc:∀x∈l,aO tz ay g (arg x::caps.map .c) []=some (aR (p x),[])):
  aS tz ay 0 f [bh (l.map row),.c (.bG g caps)]=some (aR (l.any p),[]):=by
 have h:=pJ hF l hm p hc
 simp only[pd,ae3,aca,aiP,or_false]at hA
 rcases hA with⟨rfl,rfl⟩|⟨rfl,rfl⟩|⟨rfl,rfl⟩|⟨rfl,rfl⟩|⟨rfl,rfl⟩
 all_goals
  refine be (by first|exact func171|exact func178|exact func187|exact func292|exact func152) rfl ?_
  simp[f171,f178,f187,f292,f152,a,b,d,h,Ay]
def R8(hA:pd f bm)(hF:pk bm row arg)(l:List α)(hm:l.length<=maxLen)(J:Nat->List Ob->Prop)(p:Nat->α->Bool)(b:tz.md g=3)
  (hc:∀k (i:k<l.length) H,J k H->∃a,aO tz ay g (arg l[k]::caps.map .c) H=some (aR (p k l[k]),a)/\J (k+1) a) (H:List Ob) (d:J 0 H):
  ∃a,bB tz (ev tz) f [bh (l.map row),.c (.bG g caps)] H=some (aR (decide (0<=fX p 0 l)),a)/\J (jj p 0 l) a:=by
 obtain⟨a,e,h⟩:=OQ (caps:=caps) hF l hm J p hc H d
 refine⟨a,?_,h⟩
 simp only[pd,ae3,aca,aiP,or_false]at hA
 rcases hA with⟨rfl,rfl⟩|⟨rfl,rfl⟩|⟨rfl,rfl⟩|⟨rfl,rfl⟩|⟨rfl,rfl⟩
 all_goals
  refine te (by first|exact func171|exact func178|exact func187|exact func292|exact func152) rfl ?_
  simp[f171,f178,f187,f292,f152,b,e]
def It:pk 109 ax fun x=> .agg (ax x):= .inl ⟨8,by simp,fun _=>⟨rfl,rfl⟩⟩
def Oq:pk 251 aW fun x=> .agg (aW x):= .inl ⟨2,by simp,fun _=>⟨rfl,rfl⟩⟩
def Nv:pk 256 aN fun x=> .agg (aN x):= .inl ⟨4,by simp,fun _=>⟨rfl,rfl⟩⟩
def TF:pk 332 dm fun x=> .agg (dm x):= .inl ⟨2,by simp,fun _=>⟨rfl,rfl⟩⟩
def O0:pk 235 aC fun x=>aa x:= .inr ⟨rfl,fun _=>⟨_,rfl,rfl⟩⟩
def yH:=pJ (g:=g) (caps:=caps) (hF:=It)
def WO:=pJ (g:=g) (caps:=caps) (hF:=O0)
def agX:=pJ (g:=g) (caps:=caps) (hF:=Nv)
def xC:=pC (g:=g) (caps:=caps) (f:=171) (hA:=by simp[pd]) (hF:=It)
def Lo:=pC (g:=g) (caps:=caps) (f:=178) (hA:=by simp[pd]) (hF:=Oq)
def aaw:=pC (g:=g) (caps:=caps) (f:=187) (hA:=by simp[pd]) (hF:=Nv)
def KU:=pC (g:=g) (caps:=caps) (f:=292) (hA:=by simp[pd]) (hF:=TF)
def ww:=pC (g:=g) (caps:=caps) (f:=152) (hA:=by simp[pd]) (hF:=O0)
def VH:=R8 (g:=g) (caps:=caps) (f:=171) (hA:=by simp[pd]) (hF:=It)
def S7:=R8 (g:=g) (caps:=caps) (f:=178) (hA:=by simp[pd]) (hF:=Oq)
def P1(hF:(f,n)∈ [(256,4),(82,3)])(hr:∀x,(row x).length=n)(l:List α)(hm:l.length<=maxLen)(h o q:Nat)(J:Nat->List Ob->Prop)(p:Nat->α->Bool)
  (D:∀k H,J k H->∃rows,H[h]?=some (.live o n rows)/\∀j (M:j<l.length),rows[q+j]?=some (row l[j]))
  (hc:∀k (a:k<l.length) H,J k H->∃b,aO tz ay g (.agg (row l[k])::caps.map .c) H=some (aR (p k l[k]),b)/\J (k+1) b) (H:List Ob) (E:J 0 H):
  ∃b,bB tz (ev tz) f [bd h o q l.length,.c (.bG g caps)] H=some (aa (fX p 0 l),b)/\J (jj p 0 l) b:=by
 simp only[ae3,aca,aiP,or_false]at hF
 rcases hF with⟨rfl,rfl⟩|⟨rfl,rfl⟩
 all_goals
  refine gv (by first|exact func256|exact func82) rfl ?_
  simp[-aD,f256,f82,underlying65,underlying89]
  refine ia (fun k:Nat=>[(7,aa l.length),(8,aa k),(0,bd h o q l.length),(1,.c (.bG g caps))]) (fun k H=>J k H/\k<=l.length/\fX p 0 l=fX p k (l.drop k)/\jj p 0 l=jj p k (l.drop k)) (fun k=>l.length-k) ?_ 0 (by simp) (by simpa using E) fun _=>rfl
  rintro k e H⟨r,s,v,w,_⟩⟨t,N,d,i⟩
  have⟨rows,y,F⟩:=D k H t
  by_cases a:k<l.length
  .have G:l.drop k=l[k]::l.drop (k+1):=afv a
   have I:ads.wrap ((k:Int)+1)=((k+1:Nat):Int):=cr (by unfold maxLen at hm;omega)
   rw[G]at d i
   have K:=F k a
   have⟨z,A⟩:=aa3.1 K
   have⟨b,m,B⟩:=hc k a H t
   have u:=hr l[k]
   have C:=ach (aj3 u)
   cases hp:p k l[k]with
   |true=>
    rw[hp]at m
    simp[-aD,r,s,v,w,a,m,y,z,A,u,C]
    simp[d,i,fX,jj,hp]
    exact B
   |false=>
    rw[hp]at m
    simp[-aD,r,s,v,w,a,m,I,y,z,A,u,C]
    exact⟨k+1,by omega,by simp,B,by omega,by simpa[fX,hp]using d,by simpa[jj,hp]using i⟩
  .simp[-aD,r,s,a]
   have L:k=l.length:=by omega
   subst L
   rw[aip (adt _)]at d i
   rw[d,i]
   exact⟨rfl,t⟩
def SZ:=P1 (g:=g) (caps:=caps) (f:=256) (row:=aN) (n:=4) (hF:=by simp) (hr:=fun _=>rfl)
def afC:=P1 (g:=g) (caps:=caps) (f:=82) (row:=br) (n:=3) (hF:=by simp) (hr:=fun _=>rfl)
end
instance iW2:W:=W1
def Xg(x y:Int):eM [.int] (aC x) (aC y)=some (decide (x=y)):=by simp[aC,eM,lY]
def ZS(x y:cu):eM [.int,.int] (aW x) (aW y)=some (decide (x=y)):=by cases x;cases y;simp only[aW,eM,lY,if_true,abj];rw[ajY];simp
def abN(x y:aI):eM [.int,.int,.int,.bool,.bool,.bool,.bool,.bool] (ax x) (ax y)=some (decide (x=y)):=by cases x;cases y;simp only[ax,eM,lY,if_true,abj];rw[ajY];simp
def yG(l m:List Int)(hm:l.length<=maxLen):aS tz ay 0 183 [bh (l.map aC),bh (m.map aC)]=some (aR (decide (l=m)),[]):=by
 refine be func183 rfl ?_;by_cases n:l.length=m.length
 case neg=>
  have:decide (l=m)=false:=by simp;intro h;exact n (by rw[h])
  have q:((l.length:Int)=m.length)=False:=by simp;omega
  simp[f183,underlying30,q,this]
 have w:(m.length:Int)=l.length:=by omega
 simp[f183,underlying30,n];refine ia (fun k:Nat=>[(12,aa m.length),(13,aa k),(0,bh (l.map aC)),(1,bh (m.map aC))]) (fun k H=>H=[]/\k<=l.length/\(l=m↔l.drop k=m.drop k)) (fun k=>l.length-k) ?_ 0 (by simp) (by simp) fun _=>rfl;rintro k e H ⟨c,d,o,p,_⟩ ⟨r,x,f⟩;subst r;by_cases b:k<m.length
 .have g:k<l.length:=by omega
  have s:l.drop k=l[k]::l.drop (k+1):=afv g;have t:m.drop k=m[k]::m.drop (k+1):=afv b;have u:ads.wrap ((k:Int)+1)=((k+1:Nat):Int):=cr (by unfold maxLen at hm;omega);have i:l=m↔l[k]=m[k]/\l.drop (k+1)=m.drop (k+1):=by rw[f,s,t,aiu]
  have j:eM [.int] (aC l[k]) (aC m[k])=some (decide (l[k]=m[k])):=Xg _ _;try simp only[aC]at j
  by_cases a:l[k]=m[k]
  .simp[a]at j;simp only[a,true_and]at i;simp[aC,c,d,o,p,b,g,a,u];exact⟨k+1,by omega,by simp,by omega,i⟩
  .have y:¬m[k]=l[k]:=fun e=>a e.symm;simp[a]at j;have v:¬l=m:=by simpa[a]using i
   simp[aC,c,d,o,p,b,g,a,v]
 .simp[c,d,b];rw[aip (by omega),aip (by omega)]at f;simpa using f
def RA(l m:List cu)(hm:l.length<=maxLen):aS tz ay 0 214 [bh (l.map aW),bh (m.map aW)]=some (aR (decide (l=m)),[]):=by
 refine be func214 rfl ?_;by_cases n:l.length=m.length
 case neg=>
  have:decide (l=m)=false:=by simp;intro h;exact n (by rw[h])
  have q:((l.length:Int)=m.length)=False:=by simp;omega
  simp[f214,underlying68,q,this]
 have w:(m.length:Int)=l.length:=by omega
 simp[f214,underlying68,n];refine ia (fun k:Nat=>[(12,aa m.length),(13,aa k),(0,bh (l.map aW)),(1,bh (m.map aW))]) (fun k H=>H=[]/\k<=l.length/\(l=m↔l.drop k=m.drop k)) (fun k=>l.length-k) ?_ 0 (by simp) (by simp) fun _=>rfl;rintro k e H ⟨d,f,o,p,_⟩ ⟨r,x,g⟩;subst r;by_cases c:k<m.length
 .have i:k<l.length:=by omega
  have s:l.drop k=l[k]::l.drop (k+1):=afv i;have t:m.drop k=m[k]::m.drop (k+1):=afv c;have u:ads.wrap ((k:Int)+1)=((k+1:Nat):Int):=cr (by unfold maxLen at hm;omega);have j:l=m↔l[k]=m[k]/\l.drop (k+1)=m.drop (k+1):=by rw[g,s,t,aiu]
  have b:eM [.int,.int] (aW l[k]) (aW m[k])=some (decide (l[k]=m[k])):=ZS _ _;try simp only[aW]at b
  by_cases a:l[k]=m[k]
  .simp[a]at b;simp only[a,true_and]at j;simp[aW,d,f,o,p,c,i,a,u,b];exact⟨k+1,by omega,by simp,by omega,j⟩
  .have y:¬m[k]=l[k]:=fun e=>a e.symm;simp[a]at b;have v:¬l=m:=by simpa[a]using j
   simp[aW,d,f,o,p,c,i,b,v]
 .simp[d,f,c];rw[aip (by omega),aip (by omega)]at g;simpa using g
def S4(l m:List aI)(hm:l.length<=maxLen):aS tz ay 0 319 [bh (l.map ax),bh (m.map ax)]=some (aR (decide (l=m)),[]):=by
 refine be func319 rfl ?_;by_cases n:l.length=m.length
 case neg=>
  have:decide (l=m)=false:=by simp;intro h;exact n (by rw[h])
  have q:((l.length:Int)=m.length)=False:=by simp;omega
  simp[f319,underlying59,q,this]
 have w:(m.length:Int)=l.length:=by omega
 simp[f319,underlying59,n];refine ia (fun k:Nat=>[(12,aa m.length),(13,aa k),(0,bh (l.map ax)),(1,bh (m.map ax))]) (fun k H=>H=[]/\k<=l.length/\(l=m↔l.drop k=m.drop k)) (fun k=>l.length-k) ?_ 0 (by simp) (by simp) fun _=>rfl;rintro k e H ⟨d,f,o,p,_⟩ ⟨r,x,g⟩;subst r;by_cases c:k<m.length
 .have i:k<l.length:=by omega
  have s:l.drop k=l[k]::l.drop (k+1):=afv i;have t:m.drop k=m[k]::m.drop (k+1):=afv c;have u:ads.wrap ((k:Int)+1)=((k+1:Nat):Int):=cr (by unfold maxLen at hm;omega);have j:l=m↔l[k]=m[k]/\l.drop (k+1)=m.drop (k+1):=by rw[g,s,t,aiu]
  have b:eM [.int,.int,.int,.bool,.bool,.bool,.bool,.bool] (ax l[k]) (ax m[k])=some (decide (l[k]=m[k])):=abN _ _;try simp only[ax]at b
  by_cases a:l[k]=m[k]
  .simp[a]at b;simp only[a,true_and]at j;simp[ax,d,f,o,p,c,i,a,u,b];exact⟨k+1,by omega,by simp,by omega,j⟩
  .have y:¬m[k]=l[k]:=fun e=>a e.symm;simp[a]at b;have v:¬l=m:=by simpa[a]using j
   simp[ax,d,f,o,p,c,i,b,v]
 .simp[d,f,c];rw[aip (by omega),aip (by omega)]at g;simpa using g
def ad2(d:cP)(x:aI)(e:Int)(h:Nat)(H:List Ob)(a:H[h]?=some (ah 1 [[I e]])):bB tz (ev tz) 249 [.agg (ax x),aw h,.c (.aK [dS d] 0 0)] H=some (aR (!cR d.id e x),H.set h (ah 1 [[I x.peer]])):=by
 refine te func249 rfl ?_;by_cases c1:x.peer>e
 case neg=>simp[f249,ax,dS,a,cR,c1]
 by_cases c2:x.peer=d.id
 .simp[f249,ax,dS,a,cR,c1,eq_true c2]
 by_cases c3:x.aP<0
 .simp[f249,ax,dS,a,cR,c1,c2,eq_true c3]
 by_cases c4:x.aP>65535
 .simp[f249,ax,dS,a,cR,c1,c2,c3,eq_true c4]
 by_cases c5:x.state<0
 .simp[f249,ax,dS,a,cR,c1,c2,c3,c4,eq_true c5]
 by_cases b:x.state>3
 .simp[f249,ax,dS,a,cR,c1,c2,c3,c4,c5,eq_true b]
 cases f:x.cJ
 case false=>simp[f249,ax,dS,a,cR,c1,c2,c3,c4,c5,b,f]
 cases g:x.fork
 case true=>simp[f249,ax,dS,a,cR,c1,c2,c3,c4,c5,b,f,g]
 simp[f249,ax,dS,a,cR,c1,c2,c3,c4,c5,b,f,g]
def ou(l:List aI)(k:Nat):Int:=match k with
 |0=> -1
 |k+1=>(l[k]?.map (·.peer)).getD (-1)
def Qq(id:Int)(l:List aI):∀(r:List aI) (k:Nat),l.drop k=r->k<=l.length->decide (0<=fX (fun k x=>!cR id (ou l k) x) k r)=!dU id (ou l k) r
 |[],k,h,e=>rfl
 |x::r,k,h,e=>by
  have b:k<l.length:=by
   rcases aj2 k l.length with a|a
   .exact a
   .rw[aip a]at h;cases h
  have c:l[k]=x/\l.drop (k+1)=r:=by
   rw[afv b]at h
   exact List.cons.inj h
  have f:ou l (k+1)=x.peer:=by simp[ou,b,c.1]
  simp only[fX,dU]
  by_cases d:cR id (ou l k) x=true
  .have:=Qq id l r (k+1) c.2 (by omega)
   rw[f]at this
   simp only[d,Bool.not_true,aeb,if_false,Bool.true_and]
   exact this
  .have g:cR id (ou l k) x=false:=by simpa using d
   simp[g]
def Fh(d:cP)(hm:d.af.length<=maxLen):aS tz ay 0 173 [.agg (dS d)]=some (aa (if eA d then 0 else 130),[]):=by
 refine be func173 rfl ?_;by_cases c1:d.id<0
 .simp[f173,dS,eA,eq_true c1]
 by_cases c2:d.phase<0
 .simp[f173,dS,eA,c1,eq_true c2]
 by_cases c3:d.phase>2
 .simp[f173,dS,eA,c1,c2,eq_true c3]
 by_cases c4:64<=d.af.length
 .have b:(d.af.length:Int)>=64:=by omega
  simp[f173,underlying59,dS,eA,c1,c2,c3,c4,b]
 have b:¬(d.af.length:Int)>=64:=by omega
 have⟨h,a,i⟩:=VH (g:=249) (caps:=[.ptr 0 0 0 0,.aK [dS d] 0 0]) d.af hm (fun k H=>H=[ah 1 [[I (ou d.af k)]]]) (fun k x=>!cR d.id (ou d.af k) x) (by simp) (fun k c H e=>by subst e;have:=ad2 d d.af[k] (ou d.af k) 0 [ah 1 [[I (ou d.af k)]]] rfl;refine⟨_,?_,rfl⟩;rw[dz (f:=249) rfl];simp[ou,c]at this|-;exact this) [ah 1 [[I (-1)]]] rfl
 rw[Qq d.id d.af d.af 0 rfl (by omega)]at a;simp only[dS]at a;cases c5:dU d.id (-1) d.af<;>simp[ou,c5]at a<;>simp[f173,underlying59,dS,eA,c1,c2,c3,c4,b,c5,a]
def Yr(a b:cP)(hm:a.af.length<=maxLen):aS tz ay 0 269 [.agg (dS a),.agg (dS b)]=some (aR (decide (a=b)),[]):=by
 refine be func269 rfl ?_;have h:=S4 a.af b.af hm;have⟨i,p,l⟩:=a;have⟨c,d,e⟩:=b;simp only at h;by_cases c1:i=c
 case neg=>simp[f269,dS,c1]
 by_cases c2:p=d
 case neg=>simp[f269,dS,c1,c2]
 simp[f269,dS,h,c1,c2]
section
variable{n c:Nat}{α:Type}{l:List cB}
def lQ(H:List Ob)(c:Nat)(l:List cB):Prop:= ∃a,H[c]?=some (ah 1 [[a]])/\((l=[]/\a=ap)\/∃b d,l≠ []/\b≠c/\a= .sl b d 0 l.length/\H[b]?=some (.live d 5 (l.map dX)))
def fx(Z Cs:List Nat)(H H':List Ob):Prop:=H.length<=H'.length/\∀(m v z:Nat) (rows:List (List ab)),H[m]?=some (.live v z rows)->m∉Cs->z∉Z->H'[m]?=some (.live v z rows)
section
variable{Z Cs:List Nat}{H H' H'':List Ob}
def fx.refl(Z Cs:List Nat)(H:List Ob):fx Z Cs H H:=⟨adt _,fun _ _ _ _ h _ _=>h⟩
def fx.trans(h:fx Z Cs H H')(a:fx Z Cs H' H''):fx Z Cs H H'':=⟨aiZ h.1 a.1,fun m v z rows d b c=>a.2 m v z rows (h.2 m v z rows d b c) b c⟩
def fx.snoc(h:fx Z Cs H H')(l:List Ob):fx Z Cs H (H'++l):=⟨by have:=h.1;simp;omega,fun m v z rows b c d=>by have a:=h.2 m v z rows b c d;rw[aaK (aa3.1 a).1];exact a⟩
def fx.set(h:fx Z Cs H H')(hn:n∈Cs)(y:Ob):fx Z Cs H (H'.set n y):=⟨by have:=h.1;simpa using this,fun m v z rows b a c=>by
 have d:=h.2 m v z rows b a c;have hm:n≠m:=fun e=>by subst e;exact a hn
 rw[aay hm];exact d⟩
def fx.Da(h:fx Z Cs H H'){d b:Nat}{f:List (List ab)}(hn:H'[n]?=some (.live d b f))(g:b∈Z)(y:Ob):fx Z Cs H (H'.set n y):=⟨by have:=h.1;simpa using this,fun m v z rows i j c=>by
 have a:=h.2 m v z rows i j c;have hm:n≠m:=fun e=>by subst e;rw[hn]at a;cases a;exact c g
 rw[aay hm];exact a⟩
def fx.new(h:fx Z Cs H H')(hn:H.length<=n)(y:Ob):fx Z Cs H (H'.set n y):=⟨by have:=h.1;simpa using this,fun m v z rows a b c=>by
 have d:=h.2 m v z rows a b c;have hm:n≠m:=fun e=>by subst e;have:=(aa3.1 a).1;omega
 rw[aay hm];exact d⟩
end
def ba{l:List α}{x y:α}(h:l[n]?=some x):(l.set n y)[n]?=some y:=afN (aa3.1 h).1
def bf{l:List α}{x:α}(h:l[n]?=some x):n<l.length:=(aa3.1 h).1
def aV{l m:List α}{x:α}(h:l[n]?=some x):(l++m)[n]?=some x:=by rw[aaK (bf h)];exact h
def To(id u:Int)(sl:ab)(x:aI)(k:Int)(c b h a j i m n:Nat)(rows:List (List ab))(l:List cB)(H:List Ob)(f:lQ H c l)(w:l.length<=1000)(o:H[b]?=some (.live m 3 [[I id,I u,sl]]))(p:H[h]?=some (.live n 1 [[.ptr a j i 0]]))(q:H[a]?=some (.live j 8 rows))(v:rows[i]?=some (ax x)):
  ∃H',bB tz (ev tz) 342 [aa k,aw c,kV b m 0 0,kV h n 0 0] H=some (.aM [],H')/\lQ H' c (l++[fu id x k])/\fx [5] [c] H H':=by
 have⟨y,hc,f⟩:=f
 have⟨r,g⟩:=aa3.1 v
 simp only[ax]at g
 have z:=bf hc
 have A:5<=maxLen:=by decide
 refine gv func342 rfl ?_
 rcases f with⟨rfl,rfl⟩|⟨s,t,_,d,rfl,e⟩
 .simp[f342,hc,o,p,q,r,g,aV hc]
  refine⟨⟨_,ba (aV hc),.inr ⟨H.length+1,0,by simp,by omega,rfl,?_⟩⟩,((fx.refl _ _ _).snoc _).set (by simp) _⟩
  rw[aay (by omega),jd]
  rfl
 .have B:=bf e
  simp[f342,hc,o,p,q,r,g,d,aV hc,aV e,show l.length+1<=maxLen/\(l.length+1)*40<=140737488355328 from⟨by unfold maxLen;omega,by omega⟩]
  refine⟨⟨_,ba (x:=ah 1 [[.sl s t 0 l.length]]) (by rw[aay d];exact aV hc),.inr ⟨s,t+1,by simp,d,by simp,?_⟩⟩,(((fx.refl _ _ _).snoc _).Da (aV e) (by simp) _).set (by simp) _⟩
  rw[aay (ain d),ba (aV e)]
  simp[fu,dX]
def lQ.aJ{H H':List Ob}(h:lQ H c l)(b:∀(m v z:Nat) (rows:List (List ab)),H[m]?=some (.live v z rows)->(m=c\/z=5)->H'[m]?=some (.live v z rows)):lQ H' c l:=by
 have⟨d,e,a⟩:=h;refine⟨d,b _ _ _ _ e (.inl rfl),?_⟩;rcases a with a|⟨f,g,i,j,k,n⟩
 .exact .inl a
 .exact .inr ⟨f,g,i,j,k,b _ _ _ _ n (.inr rfl)⟩
def lQ.snoc{H:List Ob}(h:lQ H c l)(m:List Ob):lQ (H++m) c l:=h.aJ fun _ _ _ _ h _=>aV h
def lQ.set{H:List Ob}{v z:Nat}{rows:List (List ab)}(h:lQ H c l)(hn:H[n]?=some (.live v z rows))(hc:n≠c)(b:z≠5)(y:Ob):lQ (H.set n y) c l:=h.aJ fun m d f g a hm=>by
 have:n≠m:=fun e=>by
  subst e;rw[hn]at a;cases a;rcases hm with hm|hm
  .exact hc hm
  .exact b hm
 rw[aay this];exact a
end
section
variable{a b:au}{l m:List Int}
def iw{C:bu}{a:jh}{f:FuncId}(h:C.dG f=true)(args:List au)(H:List Ob):bB C a f args H=C.dH f args H:=by unfold bB;rw[if_pos h]
def zW:∀l:List Int,oV (l.map aC)=some l
 |[]=>rfl
 |a::l=>by simp[oV,zW l]
def xb(l:List Int):jp (.c (aG l))=some l:=by simp[jp,aG,rowsOf,zW]
def kK{a b:Nat}(h:a<=b):ak1 a b=true:=by rw[aky];exact h
def Vx:tz.dH 114=ny:=by kernel_rfl
def aar:tz.dH 190=ka gH:=by kernel_rfl
def XN:tz.dH 185=ka ke:=by kernel_rfl
def SW:tz.dH 318=ka gN:=by kernel_rfl
def LN(b:jp a=some l)(d:l.length<=1000000):aS tz ay 1 114 [a]=some (.c (aG (cD l)),[]):=by unfold aS ay;rw[iw adU,Vx];simp[ny,b,kK d,cy,bi,aG]
def Fg(c:jp a=some l)(d:jp b=some m)(e:l.length<=100000)(hm:m.length<=100000):aS tz ay 0 190 [a,b]=some (cy (gH l m)):=by unfold aS ay;rw[iw aeJ,aar];simp[ka,c,d,kK e,kK hm,cy,bi]
def LU(c:jp a=some l)(d:jp b=some m)(e:l.length<=100000)(hm:m.length<=100000):aS tz ay 0 185 [a,b]=some (cy (ke l m)):=by unfold aS ay;rw[iw Uw,XN];simp[ka,c,d,kK e,kK hm,cy,bi]
def YN(c:jp a=some l)(d:jp b=some m)(e:l.length<=100000)(hm:m.length<=100000):aS tz ay 0 318 [a,b]=some (cy (gN l m)):=by unfold aS ay;rw[iw Wt,SW];simp[ka,c,d,kK e,kK hm,cy,bi]
def rP(l:List Int):jp (bh (l.map aC))=some l:=xb l
def CH(l m:List Int)(a:l.length<=100000)(hm:m.length<=100000):aS tz ay 0 112 [.c (aG l),.c (aG m)]=some (aR (ld l m),[]):=by refine be func112 rfl ?_;have:=Fg (rP l) (rP m) a hm;simp[f112,bi,aG,this,cy,underlying30,ld];cases gH l m<;>rfl
def XG(l:List Int)(x:Int)(a:l.length<=100000):aS tz ay 1 227 [.c (aG l),aa x]=some (.c (aG (gH l [x])),[]):=by refine be func227 rfl ?_;have:=Fg (rP l) (rP [x]) a (by simp);simp at this;simp[f227,bi,aG,this,cy]
def SL(l:List Int)(x:Int)(a:l.length<=100000):aS tz ay 1 268 [.c (aG l),aa x]=some (.c (aG (gN l [x])),[]):=by refine be func268 rfl ?_;have:=YN (rP l) (rP [x]) a (by simp);simp at this;simp[f268,bi,aG,this,cy]
end
section
variable{a:ab}
def vn{a:Type}(f:a->List ab)(z:Nat)(h:∀x,(f x).length=z)(l:List a):((l.map f).all fun r=>ajt r.length z)=true:=by rw[af8];intro r b;obtain⟨x,_,rfl⟩:=aiE.1 b;rw[h x];simp
def TZ:tz.dH 44=fO 8:=by kernel_rfl
def yi{l:List aI}(b:rowsOf a=some (l.map ax))(d:l.length<=1000000):aS tz ay 0 44 [.c a]=some (bd 0 0 0 l.length,[ah 8 (l.map ax)]):=by
 unfold aS ay;rw[iw YL,TZ];have e:=vn ax 8 (fun _=>rfl) l;have f:bA (l.map ax)=true:=by first|exact xQ l|simp
 simp[fO,b,e,f,kK d]
def Ze:tz.dH 45=fO 1:=by kernel_rfl
def vp{l:List Int}(b:rowsOf a=some (l.map aC))(d:l.length<=1000000):aS tz ay 1 45 [.c a]=some (bh (l.map aC),[]):=by
 unfold aS ay;rw[iw XV,Ze];have e:=vn aC 1 (fun _=>rfl) l;have f:bA (l.map aC)=true:=by first|exact xQ l|simp
 simp[fO,b,e,f,kK d]
def agV:tz.dH 46=fO 2:=by kernel_rfl
def A5{l:List cu}(b:rowsOf a=some (l.map aW))(d:l.length<=1000000):aS tz ay 0 46 [.c a]=some (bd 0 0 0 l.length,[ah 2 (l.map aW)]):=by
 unfold aS ay;rw[iw VB,agV];have e:=vn aW 2 (fun _=>rfl) l;have f:bA (l.map aW)=true:=by first|exact xQ l|simp
 simp[fO,b,e,f,kK d]
def acP:tz.dH 47=fO 4:=by kernel_rfl
def QO{l:List bY}(b:rowsOf a=some (l.map aN))(d:l.length<=1000000):aS tz ay 0 47 [.c a]=some (bd 0 0 0 l.length,[ah 4 (l.map aN)]):=by
 unfold aS ay;rw[iw abX,acP];have e:=vn aN 4 (fun _=>rfl) l;have f:bA (l.map aN)=true:=by first|exact xQ l|simp
 simp[fO,b,e,f,kK d]
def abP:tz.dH 57=fO 3:=by kernel_rfl
def PX{l:List cU}(b:rowsOf a=some (l.map br))(d:l.length<=1000000):aS tz ay 0 57 [.c a]=some (bd 0 0 0 l.length,[ah 3 (l.map br)]):=by
 unfold aS ay;rw[iw aga,abP];have e:=vn br 3 (fun _=>rfl) l;have f:bA (l.map br)=true:=by first|exact xQ l|simp
 simp[fO,b,e,f,kK d]
def pE:Option Int->List Int->Bool
 |_,[]=>true
 |none,x::r=>pE (some x) r
 |some p,x::r=>decide (p<x)&&pE (some x) r
def Mg:∀(r:List Int) (x:Int),ei (x::r)=pE (some x) r
 |[],x=>rfl
 |y::r,x=>by rw[ei,pE,Mg r y]
def WD(l:List Int):ei l=pE none l:=by
 cases l with
 |nil=>rfl
 |cons x r=>exact Mg r x
def E4(l:List Int)(hm:l.length<=maxLen):aS tz ay 0 174 [.c (aG l)]=some (aR (ei l),[]):=by
 refine be func174 rfl ?_;rw[WD];simp[f174,underlying30];refine ia (fun k:Nat=>[(5,aa l.length),(6,aa k),(0,.c (aG l))]) (fun k H=>H=[]/\k<=l.length/\pE none l=pE (if k=0 then none else l[k-1]?) (l.drop k)) (fun k=>l.length-k) ?_ 0 (by simp) (by simp) fun _=>rfl;rintro k e H ⟨f,d,g,_⟩ ⟨p,r,a⟩;subst p;by_cases b:k<l.length
 .have q:l.drop k=l[k]::l.drop (k+1):=afv b;have h:ads.wrap ((k:Int)+1)=((k+1:Nat):Int):=cr (by unfold maxLen at hm;omega);rw[q]at a;by_cases m:k=0
  .subst m;simp at a h d;simp[f,d,g,b,h];exact⟨1,by omega,by simp,by omega,by simpa[pE,b]using a⟩
  .have i:k-1<l.length:=by omega
   have hp:ads.wrap ((k:Int)-1)=((k-1:Nat):Int):=by rw[wrap_i64 (by omega) (by unfold maxLen at hm;omega)];omega
   rw[if_neg m,aae i]at a;simp only[pE]at a;have s:(k:Int)>0:=by omega
   have n:0<k:=by omega
   by_cases o:l[k-1]<l[k]
   .have j:¬l[k]<=l[k-1]:=by omega
    simp[f,d,g,b,h,hp,i,n,j];exact⟨k+1,by omega,by simp,by omega,by simpa[o,b]using a⟩
   .have j:l[k]<=l[k-1]:=by omega
    simp[f,d,g,b,hp,i,n,j];simpa[o]using a
 .simp[f,d,b];rw[a,aip (by omega)];simp[pE]
end
section
variable{k:Nat}{H G:List Ob}{d:cP}{rows:List (List ab)}
def tR(id a:Int)(l:List aI)(out:List cB):au×List Ob:=if out=[]then(.aM [.agg [I id,I a,.sl 0 0 0 l.length],.c ap,aa 0],[ah 8 (l.map ax)])else(.aM [.agg [I id,I a,.sl 0 0 0 l.length],bd 1 0 0 out.length,aa 0],[ah 8 (l.map ax),ah 5 (out.map dX)])
def fv(d:cP)(k:Nat):List aI:=(d.af.take k).map (fun x=>(cI d.id d.phase x).1)++d.af.drop k
def kz(d:cP)(k:Nat):List cB:=(d.af.take k).flatMap fun x=>(cI d.id d.phase x).2
def pA(d:cP)(k:Nat):Bool:=(d.af.take k).all fun x=>(cI d.id d.phase x).1.fork
def jK{a:Type}{l:List a}(b:k<l.length):l.take (k+1)=l.take k++[l[k]]:=by simp
def yf(d:cP)(k:Nat):(fv d k).length=d.af.length:=by simp[fv];omega
def ad0(d:cP)(k:Nat)(a:k<d.af.length):(fv d k)[k]?=some d.af[k]:=by unfold fv;rw[ad8 (by simp;omega)];simp[ajW (alk a),a]
def VO(d:cP)(k:Nat)(a:k<d.af.length):(fv d k).set k (cI d.id d.phase d.af[k]).1=fv d (k+1):=by
 unfold fv;have b:((d.af.take k).map fun x=>(cI d.id d.phase x).1).length=k:=by simp;omega
 rw[ai9 (h:=by omega),b,ajx,jK a,afv a,ajL,agA,aio];rfl
def Zl(d:cP)(k:Nat)(a:k<d.af.length):kz d (k+1)=kz d k++(cI d.id d.phase d.af[k]).2:=by unfold kz;rw[jK a,ako,List.flatMap_singleton]
def agC(d:cP)(k:Nat)(a:k<d.af.length):pA d (k+1)=(pA d k&&(cI d.id d.phase d.af[k]).1.fork):=by unfold pA;rw[jK a,List.all_append,akp,al1,akL]
def Pn(d:cP):∀k,(kz d k).length<=2*k:=by
 intro k;unfold kz
 have:∀l:List aI,(l.flatMap fun x=>(cI d.id d.phase x).2).length<=2*l.length:=by
  intro l;induction l with
  |nil=>simp
  |cons x r a=>
   simp only[ait,afu,ahP];have:(cI d.id d.phase x).2.length<=2:=by simp only[cI];split<;>split<;>simp
   omega
 have h:=this (d.af.take k);have b:(d.af.take k).length<=k:=by simp;omega
 omega
def uH(d:cP)(k:Nat)(H:List Ob):Prop:=k<=d.af.length/\H[0]?=some (ah 3 [[I d.id,I d.phase,.sl 2 0 0 d.af.length]])/\H[1]?=some (ah 3 [[I 0,I 0,ap]])/\H[2]?=some (ah 8 ((fv d k).map ax))/\lQ H 3 (kz d k)
structure qx(d:cP)(rows:List (List ab))(outs:List cB)(xl k:Nat)(G:List Ob):Prop where
 h0:G[0]?=some (ah 3 [[I d.id,I d.phase,.sl 2 0 0 d.af.length]])
 h1:G[1]?=some (ah 3 [[I 0,I 0,ap]])
 h2:G[2]?=some (ah 8 rows)
 hx:G[xl]?=some (ah 1 [[.ptr 2 0 k 0]])
 lx:4<=xl
 ho:lQ G 3 outs
def lQ.lt{c:Nat}{l:List cB}(h:lQ H c l):c<H.length:=by have⟨b,a,_⟩:=h;exact bf a
def uH.start(h:uH d k H):qx d ((fv d k).map ax) (kz d k) H.length k (H++[ah 1 [[.ptr 2 0 k 0]]]):=
 ⟨aV h.2.1,aV h.2.2.1,aV h.2.2.2.1,by rw[pq];rfl,h.2.2.2.2.lt,h.2.2.2.2.snoc _⟩
def qx.set{d:cP}{rows:List (List ab)}{outs:List cB}{a k:Nat}{G:List Ob}(h:qx d rows outs a k G)(b:List (List ab)):qx d b outs a k (G.set 2 (ah 8 b)):=
 ⟨by rw[aay (by decide)];exact h.h0,by rw[aay (by decide)];exact h.h1,ba h.h2,by rw[aay (by have:=h.lx;omega)];exact h.hx,h.lx,h.ho.set h.h2 (by decide) (by decide) _⟩
def qx.send{outs:List cB}{a:Nat}(h:qx d rows outs a k G)(e:outs.length<=1000){x:aI}(f:rows[k]?=some (ax x))(K:Int):
  ∃b,bB tz (ev tz) 342 [aa K,aw 3,aw 0,aw a] G=some (.aM [],b)/\qx d rows (outs++[fu d.id x K]) a k b:=by
 have⟨b,g,i,c⟩:=To d.id d.phase (.sl 2 0 0 d.af.length) x K 3 0 a 2 0 k 0 0 rows outs G h.ho e h.h0 h.hx h.h2 f
 exact⟨b,g,c.2 _ _ _ _ h.h0 (by decide) (by decide),c.2 _ _ _ _ h.h1 (by decide) (by decide),c.2 _ _ _ _ h.h2 (by decide) (by decide),c.2 _ _ _ _ h.hx (by have:=h.lx;simp;omega) (by decide),h.lx,i⟩
def qx.fin{outs:List cB}{a:Nat}(h:qx d rows outs a k G)(b:rows=(fv d (k+1)).map ax)(c:outs=kz d (k+1))(e:k+1<=d.af.length):uH d (k+1) G:=by subst b c;exact⟨e,h.h0,h.h1,h.h2,h.ho⟩
def CY(d:cP)(a:eA d=true):fA d=if d.phase=1/\pA d d.af.length=true then(⟨d.id,2,(fv d d.af.length).map fun x=>{x with cJ:=true}⟩,kz d d.af.length,0)else(⟨d.id,d.phase,fv d d.af.length⟩,kz d d.af.length,0):=by
 have b:fv d d.af.length=d.af.map fun x=>(cI d.id d.phase x).1:=by simp[fv]
 have c:kz d d.af.length=d.af.flatMap fun x=>(cI d.id d.phase x).2:=by simp[kz]
 have e:pA d d.af.length=(d.af.map fun x=>(cI d.id d.phase x).1).all fun x=>x.fork:=by simp[pA,aj4];rfl
 unfold fA;rw[if_neg (by simp[a]),b,c,e]
def Bn{id i:Int}{n:Nat}{l:List aI}{out:List cB}{f:ab}{y:Ob}{z:List (List ab)}(hn:l.length=n)(o:G[1]?=some (ah 3 z))(j:G[2]?=some (ah 8 (l.map ax)))(k:(out=[]/\f=ap)\/∃a d,out≠ []/\a≠3/\f= .sl a d 0 out.length/\G[a]?=some (.live d 5 (out.map dX))):
  dF false (G.set 1 y) (.aM [.agg [I id,I i,.sl 2 0 0 n],.c f,aa 0])=some (tR id i l out):=by
 subst hn
 have m:(G.set 1 y)[2]?=some (ah 8 (l.map ax)):=by rw[aay (by decide)];exact j
 by_cases g:out=[]
 .subst g
  rcases k with⟨_,rfl⟩|⟨a,d,p,_,rfl,b⟩
  .simp[m,tR]
  .exact absurd rfl p
 .rcases k with⟨h,_⟩|⟨a,d,_,_,rfl,b⟩
  .exact absurd h g
  .have t1:a≠1:=fun e=>by subst e;rw[o]at b;simp at b
   have t2:¬a=2:=fun e=>by subst e;rw[j]at b;simp at b
   have q:(G.set 1 y)[a]?=some (.live d 5 (out.map dX)):=by rw[aay (fun e=>t1 e.symm)];exact b
   simp[m,q,t2,tR,g]
def qg(d:cP)(j:Nat):List aI:=((fv d d.af.length).take j).map (fun x=>{x with cJ:=true})++(fv d d.af.length).drop j
def agw(d:cP)(j:Nat)(a:j< (fv d d.af.length).length):(qg d j)[j]?=some (fv d d.af.length)[j]:=by unfold qg;rw[ad8 (by simp;omega)];simp[ajW (alk a),a]
def ahf(d:cP)(j:Nat)(a:j< (fv d d.af.length).length):(qg d j).set j {(fv d d.af.length)[j]with cJ:=true}=qg d (j+1):=by
 unfold qg;have b:(((fv d d.af.length).take j).map fun x=>{x with cJ:=true}).length=j:=by simp;omega
 rw[ai9 (h:=by omega),b,ajx,jK a,afv a,ajL,agA,aio];rfl
def afc(d:cP)(j:Nat):(qg d j).length=d.af.length:=by simp[qg,yf];omega
def acC(d:cP)(a:ab)(j:Nat)(H:List Ob):Prop:=j<=d.af.length/\H[0]?=some (ah 3 [[I d.id,I 2,.sl 2 0 0 d.af.length]])/\H[1]?=some (ah 3 [[I 0,I 0,ap]])/\H[2]?=some (ah 8 ((qg d j).map ax))/\H[3]?=some (ah 1 [[a]])/\((kz d d.af.length=[]/\a=ap)\/∃b c,kz d d.af.length≠ []/\b≠3/\a= .sl b c 0 (kz d d.af.length).length/\H[b]?=some (.live c 5 ((kz d d.af.length).map dX)))
def afo(d:cP)(hm:d.af.length<=100):aS tz ay 0 316 [.agg (dS d)]=some (if eA d=false then(.aM [.agg [I 0,I 0,.aj []],.c ap,aa 130],[])else tR (fA d).1.id (fA d).1.phase (fA d).1.af (fA d).2.1):=by
 obtain⟨⟨v,ao⟩,C⟩:∃ai,(if eA d=false then((.aM [.agg [I 0,I 0,.aj []],.c ap,aa 130],[]):au×List Ob)else tR (fA d).1.id (fA d).1.phase (fA d).1.af (fA d).2.1)=ai:=⟨_,rfl⟩;rw[C];refine be func316 rfl ?_;have S:=Fh d (by unfold maxLen;omega);have al:=yi (a:= .aj (d.af.map ax)) (l:=d.af) rfl (by omega);simp only[dS]at S;cases ho:eA d with
 |false=>simp[ho]at S C;obtain⟨rfl,rfl⟩:=C;simp[f316,dS,S]
 |true=>
  simp[ho]at S C;simp[-dF,f316,dS,S,al,underlying59];refine ia (fun k:Nat=>[(24,aa d.af.length),(25,aa k),(1,aw 0),(2,aw 1),(6,aw 3),(7,aR (pA d k))]) (uH d) (fun k=>d.af.length-k) ?_ 0 (by simp[pA]) (by simp[uH,fv,kz];exact⟨_,rfl,.inl ⟨rfl,rfl⟩⟩) fun _=>rfl;rintro k e H ⟨n,o,f,p,q,r,_⟩ ⟨g1,b,M,g,Y⟩;by_cases s:k<d.af.length
  .have u:ads.wrap ((k:Int)+1)=((k+1:Nat):Int):=cr (by omega);have i:=ad0 d k s;have z:=VO d k s;have A:=Zl d k s;have w:=agC d k s;have Z:=yf d k;have q6:=Pn d k;have⟨x,hx⟩:=ak d.af[k];rw[hx]at i z A w;have q7:((fv d k).map ax)[k]?=some (ax x):=by simp[i]
   have⟨q8,q9⟩:=aa3.1 q7;have h:k< (fv d k).length:=by omega
   have⟨aq,ar⟩:=aa3.1 i;have⟨D,E,F,ag,cJ,P,J,ask⟩:=x;have K:=uH.start ⟨g1,b,M,g,Y⟩;have s2:∀x y,((H++[x]).set 2 y)[2]?=some y:=fun x y=>ba (aV g);have sl:¬H.length=2:=by have:=Y.lt;omega
   have sx:∀x y,((H++[x]).set 2 y)[H.length]?=some x:=fun x y=>by rw[aay (by have:=Y.lt;omega)];simp
   have⟨L,Q⟩:=ak (pA d k);rw[Q]at r w;cases ag with
   |false=>
    by_cases c1:d.phase=1
    .cases P with
     |true=>cases L;all_goals simp[-getElem?_pos,-aae,n,o,f,q,s,aV b,b,g,aV g,i,h,ax,c1];have⟨G0,T,t⟩:=(K.set (((fv d k).map ax).set k [I D,I E,I F,B false,B cJ,B false,B J,B ask])).send (by first|omega|(simp;omega)) (x:=⟨D,E,F,false,cJ,false,J,ask⟩) (by rw[afN (by simpa using h)];rfl) 2;rw[T];have ab:=t.h0;have U:=t.h2;have V:=t.hx;simp[-getElem?_pos,-aae,n,o,f,p,q,r,u,U,V,h];exact⟨k+1,by omega,by simp[w,cI,c1],t.fin (by rw[<-z,aix];simp[cI,ax,c1]) (by rw[A];simp[cI,fu,c1]) (by omega)⟩
     |false=>cases L;all_goals simp[-getElem?_pos,-aae,n,o,f,p,q,r,s,u,aV b,b,g,aV g,i,h,ax,c1];exact⟨k+1,by omega,by simp[w,cI,c1],K.fin (by have m:=z;simp[cI,c1]at m;rw[<-m,jb h (by simpa using(aa3.1 i).2)]) (by rw[A];simp[cI,c1]) (by omega)⟩
    .cases L;all_goals simp[-getElem?_pos,-aae,n,o,f,p,q,r,s,u,aV b,b,g,aV g,i,h,ax,c1];exact⟨k+1,by omega,by simp[w,cI,c1],K.fin (by have m:=z;simp[cI,c1]at m;rw[<-m,jb h (by simpa using(aa3.1 i).2)]) (by rw[A];simp[cI,c1]) (by omega)⟩
   |true=>
    cases cJ with
    |false=>
     by_cases c1:d.phase=1
     .cases P;all_goals cases L;all_goals simp[-getElem?_pos,-aae,n,o,f,p,q,r,s,u,aV b,b,g,aV g,i,h,ax,c1];exact⟨k+1,by omega,by simp[w,cI,c1],K.fin (by have m:=z;simp[cI,c1]at m;rw[<-m,jb h (by simpa using(aa3.1 i).2)]) (by rw[A];simp[cI,c1]) (by omega)⟩
     .cases L;all_goals simp[-getElem?_pos,-aae,n,o,f,p,q,r,s,u,aV b,b,g,aV g,i,h,ax,c1];exact⟨k+1,by omega,by simp[w,cI,c1],K.fin (by have m:=z;simp[cI,c1]at m;rw[<-m,jb h (by simpa using(aa3.1 i).2)]) (by rw[A];simp[cI,c1]) (by omega)⟩
    |true=>
     by_cases c1:d.phase=1
     .cases P with
      |true=>cases L;all_goals simp[-getElem?_pos,-aae,n,o,f,q,s,aV b,b,g,aV g,i,h,s2,sl,ax,c1];have⟨G0,T,t⟩:=(K.set (((fv d k).map ax).set k [I D,I E,I F,B false,B false,B true,B J,B ask])).send (by first|omega|(simp;omega)) (x:=⟨D,E,F,false,false,true,J,ask⟩) (by rw[afN (by simpa using h)];rfl) 1;rw[T];have ab:=t.h0;have U:=t.h2;have V:=t.hx;simp[-getElem?_pos,-aae,f,ab,U,V,h,c1];have⟨G1,e1,W⟩:=(t.set ((((fv d k).map ax).set k [I D,I E,I F,B false,B false,B true,B J,B ask]).set k [I D,I E,I F,B false,B false,B false,B J,B ask])).send (by first|omega|(simp;omega)) (x:=⟨D,E,F,false,false,false,J,ask⟩) (by rw[afN (by simpa using h)];rfl) 2;simp only[ajB]at e1 W;rw[e1];have av:=W.h0;have am:=W.h2;have an:=W.hx;simp[-getElem?_pos,-aae,n,o,f,p,q,r,u,am,an,h];exact⟨k+1,by omega,by simp[w,cI,c1],W.fin (by rw[<-z,aix];simp[cI,ax,c1]) (by rw[A];simp[cI,fu,c1]) (by omega)⟩
      |false=>cases L;all_goals simp[-getElem?_pos,-aae,n,o,f,p,q,r,s,u,aV b,b,g,aV g,i,h,ax,c1];exact⟨k+1,by omega,by simp[w,cI,c1],K.fin (by have m:=z;simp[cI,c1]at m;rw[<-m,jb h (by simpa using(aa3.1 i).2)]) (by rw[A];simp[cI,c1]) (by omega)⟩
     .by_cases c2:d.phase=2
      .cases P;all_goals cases L;all_goals simp[-getElem?_pos,-aae,n,o,f,p,q,r,s,u,aV b,b,g,aV g,i,h,ax,c2];exact⟨k+1,by omega,by simp[w,cI,c2],K.fin (by have m:=z;simp[cI,c2]at m;rw[<-m,jb h (by simpa using(aa3.1 i).2)]) (by rw[A];simp[cI,c2]) (by omega)⟩
      .cases P with
       |true=>cases L;all_goals simp[-getElem?_pos,-aae,n,o,f,q,s,aV b,b,g,aV g,i,h,s2,sl,ax,c2];have⟨G0,T,t⟩:=(K.set (((fv d k).map ax).set k [I D,I E,I F,B false,B false,B true,B J,B ask])).send (by first|omega|(simp;omega)) (x:=⟨D,E,F,false,false,true,J,ask⟩) (by rw[afN (by simpa using h)];rfl) 1;rw[T];have ab:=t.h0;have U:=t.h2;have V:=t.hx;simp[-getElem?_pos,-aae,n,o,f,p,q,r,u,ab,U,V,h,c1];exact⟨k+1,by omega,by simp[w,cI,c1,c2],t.fin (by rw[<-z,aix];simp[cI,ax,c1,c2]) (by rw[A];simp[cI,fu,c1,c2]) (by omega)⟩
       |false=>cases L;all_goals simp[-getElem?_pos,-aae,n,o,f,p,q,r,s,u,aV b,b,g,aV g,i,h,ax,c1];exact⟨k+1,by omega,by simp[w,cI,c1,c2],K.fin (by have m:=z;simp[cI,c1,c2]at m;rw[<-m,jb h (by simpa using(aa3.1 i).2)]) (by rw[A];simp[cI,c1,c2]) (by omega)⟩
  .obtain rfl:k=d.af.length:=by omega
   have⟨ol,ad,ae⟩:=Y;have R:=CY d ho;have Z:=yf d d.af.length;by_cases c1:d.phase=1
   .cases Q:pA d d.af.length with
    |true=>
     rw[Q]at r;simp only[c1,Q,and_self,if_true]at R;rw[R]at C;have s0:∀y,(H.set 0 y)[0]?=some y:=fun y=>ba b;simp[-dF,underlying59,n,o,f,r,b,s0,c1];refine Ends.sq (Ends.bl (gO (fun j:Nat=>[(100,aa d.af.length),(101,aa j),(1,aw 0),(2,aw 1),(6,aw 3)]) (acC d ol) [] (fun j=>d.af.length-j) _ [100,101,1,2,6] (fun _=>rfl) ?_ 0 _ (by simp[f,p,q]) ⟨by omega,ba b,by rw[aay (by decide)];exact M,by rw[aay (by decide)];exact g,by rw[aay (by decide)];exact ad,?_⟩ rfl))
     .rintro j⟨e,G,ds⟩f⟨j0,j1,j2,j3,j4,N⟩p;simp only at f j1 j2 j3 j4 N p;subst p;simp at f;have⟨n,o,f,p,q⟩:=f;by_cases hj:j<d.af.length
      .have u:ads.wrap ((j:Int)+1)=((j+1:Nat):Int):=cr (by omega);have ah:j< (fv d d.af.length).length:=by omega
       have t1:=agw d j ah;have t2:=ahf d j ah;have t3:=afc d j;have⟨x,hx⟩:=ak ((fv d d.af.length)[j]);rw[hx]at t1 t2;have⟨t4,t5⟩:=aa3.1 t1;have⟨D,E,F,ag,cJ,P,J,ask⟩:=x;simp[-getElem?_pos,-aae,n,o,f,p,q,u,hj,j1,j3,t1,t4,ax];refine⟨j+1,by omega,by simp,by omega,by rw[aay (by decide)];exact j1,by rw[aay (by decide)];exact j2,?_,by rw[aay (by decide)];exact j4,?_⟩
       .rw[ba j3, <-t2,aix];rfl
       .rcases N with N|⟨ha,va,u1,u2,u3,O⟩
        .exact .inl N
        .refine .inr ⟨ha,va,u1,u2,u3,?_⟩;rw[aay (fun e=>by subst e;rw[j3]at O;simp at O)];exact O
      .obtain rfl:j=d.af.length:=by omega
       have X:∀y,(G.set 1 y)[1]?=some y:=fun y=>ba j2;simp[-dF,n,o,f,p,q,j1,j2,j4,X];rw[<-C];have t6:qg d d.af.length=(fv d d.af.length).map fun x=>{x with cJ:=true}:=by unfold qg;rw[ach (by omega),aip (by omega),aeo]
       rw[t6]at j3;exact Bn (by rw[ahL];exact Z) j2 j3 N
     .rcases ae with N|⟨ha,va,u1,u2,u3,O⟩
      .exact .inl N
      .refine .inr ⟨ha,va,u1,u2,u3,?_⟩;rw[aay (fun e=>by subst e;rw[b]at O;simp at O)];exact O
    |false=>rw[Q]at r;simp only[c1,Q,aeb,and_false,if_false]at R;rw[R]at C;have X:∀y,(H.set 1 y)[1]?=some y:=fun y=>ba M;simp[-dF,n,o,f,p,q,r,b,M,ad,X,c1];rw[<-C];exact Bn Z M g ae
   .simp only[c1,false_and,if_false]at R;rw[R]at C;have X:∀y,(H.set 1 y)[1]?=some y:=fun y=>ba M;simp[-dF,n,o,f,p,q,b,M,ad,X,c1];rw[<-C];exact Bn Z M g ae
end
def zL{b:Type}{p:b->Bool}{s:b}:∀ {l:List b} (k:Nat),l.find? p=some s->∃j:Nat,dw p k l=((k+j:Nat):Int)/\(∃g:j<l.length,l[j]=s)/\∀f,setAt p f l=l.set j (f s)
 |[],k,h=>by simp at h
 |x::r,k,h=>by
  rw[akc]at h
  cases a:p x with
  |true=>rw[a]at h;cases h;exact⟨0,by simp[dw,a],⟨by simp,rfl⟩,by simp[setAt,a]⟩
  |false=>
   rw[a]at h
   have⟨j,c,⟨i,d⟩,e⟩:=zL (k+1) h
   refine⟨j+1,?_,⟨by simp;omega,by simpa using d⟩,by simp[setAt,a,e]⟩
   simp only[dw,a]
   rw[show k+(j+1)=k+1+j by omega]
   exact c
def abU(x:aI)(p:Int)(m:cU):aS tz ay 0 345 [.agg (ax x),.c (.aK [[I p]] 0 0),.c (.aK [br m] 0 0)]=some (aR (jR p m.aP x),[]):=by
 refine be func345 rfl ?_;by_cases a:x.peer=p
 .by_cases b:x.aP=m.aP;all_goals simp[f345,ax,br,jR,a,b]
 .simp[f345,ax,br,jR,a]
def tW(d:cP)(c:Int):au×List Ob:=(.aM [.agg [I d.id,I d.phase,.sl 0 0 0 d.af.length],aa c],[ah 8 (d.af.map ax)])
def nK(c:Int):au×List Ob:=(.aM [.agg [I 0,I 0,.aj []],aa c],[])
def acS(d:cP)(p:Int)(m:cU)(hm:d.af.length<=100):aS tz ay 0 321 [.agg (dS d),aa p,.agg (br m)]=some (if(jV d p m).2=0 then tW (jV d p m).1 0 else nK (jV d p m).2):=by
 obtain⟨⟨v,o⟩,b⟩:∃r,(if(jV d p m).2=0 then tW (jV d p m).1 0 else nK (jV d p m).2)=r:=⟨_,rfl⟩;rw[b];refine be func321 rfl ?_;have c:=Fh d (by unfold maxLen;omega);have s:=yi (a:= .aj (d.af.map ax)) (l:=d.af) rfl (by omega);have e:=yH (g:=345) (caps:=[.aK [[I p]] 0 0,.aK [br m] 0 0]) d.af (by unfold maxLen;omega) (jR p m.aP) (fun x _=>by have:=abU x p m;simp[ax,br]at this;simp[ax,br,this])
 simp only[dS]at c;simp only[br]at e;unfold jV at b;cases C:eA d with
 |false=>simp[C,nK]at c b;obtain⟨rfl,rfl⟩:=b;simp[f321,dS,br,c]
 |true=>
  simp[C]at c b;cases y:d.af.find? (jR p m.aP)with
  |none=>rw[qG 0 y]at e;simp[y,nK]at b;obtain⟨rfl,rfl⟩:=b;simp[f321,dS,br,c,e]
  |some x=>
   have⟨j,D,⟨q,w⟩,F⟩:=zL 0 y;rw[aiQ]at D;rw[D]at e;simp only[y,F]at b;have⟨f,h,i,t,k,u,n,ask⟩:=x;have G:d.af[j]?=some ⟨f,h,i,t,k,u,n,ask⟩:=by rw[aae q,w]
   have⟨E,H,num⟩:=m;simp only at b e;by_cases c1:E=1
   .subst c1;by_cases c2:num=0
    .subst c2;cases t with
     |true=>simp[nK]at b;obtain⟨rfl,rfl⟩:=b;simp[f321,dS,br,c,e,s,q,w,ax]
     |false=>
      have z:ajo d.af.length ((d.af.map ax).set j [I f,I h,I i,B true,B k,B u,B n,B ask])=(d.af.set j ⟨f,h,i,true,k,u,n,ask⟩).map ax:=by rw[ach (by simp),aix];rfl
      have A:bA ((d.af.map ax).set j [I f,I h,I i,B true,B k,B u,B n,B ask])=true:=by have:=bL (d.af.set j ⟨f,h,i,true,k,u,n,ask⟩);rw[aix]at this;exact this
      simp[tW]at b;obtain⟨rfl,rfl⟩:=b;simp[f321,dS,br,c,e,s,q,w,z,A,ax]
    .simp[nK,c2]at b;obtain⟨rfl,rfl⟩:=b;simp[f321,dS,br,c,e,s,q,c2]
   .by_cases c3:E=2
    .subst c3;by_cases c2:num=0
     .subst c2;cases u with
      |true=>simp[nK]at b;obtain⟨rfl,rfl⟩:=b;simp[f321,dS,br,c,e,s,q,w,ax]
      |false=>
       have z:ajo d.af.length ((d.af.map ax).set j [I f,I h,I i,B t,B k,B true,B n,B ask])=(d.af.set j ⟨f,h,i,t,k,true,n,ask⟩).map ax:=by rw[ach (by simp),aix];rfl
       have A:bA ((d.af.map ax).set j [I f,I h,I i,B t,B k,B true,B n,B ask])=true:=by have:=bL (d.af.set j ⟨f,h,i,t,k,true,n,ask⟩);rw[aix]at this;exact this
       simp[tW]at b;obtain⟨rfl,rfl⟩:=b;simp[f321,dS,br,c,e,s,q,w,z,A,ax]
     .simp[nK,c2]at b;obtain⟨rfl,rfl⟩:=b;simp[f321,dS,br,c,e,s,q,c2]
    .simp[nK,c1,c3]at b;obtain⟨rfl,rfl⟩:=b;simp[f321,dS,br,c,e,s,q,c1,c3]
def pD(a:List Nat)(x:aI):cW a (ax x)=true:=by simp[ax]
def Rb(a:List Nat)(x:cB):cW a (dX x)=true:=by simp[dX]
def Uh(a:List Nat)(x:cu):cW a (aW x)=true:=by simp[aW]
def Xe(x:aI)(p:Int):aS tz ay 0 172 [.agg (ax x),.c (.aK [[I p]] 0 0)]=some (aR (decide (x.peer=p)),[]):=by refine be func172 rfl ?_;simp[f172,ax]
def abt(d:Dr)(p:Int)(hm:d.ai.af.length<=maxLen):aS tz ay 0 170 [aa p,.c (.aK [cV d] 0 0)]=some (aR (!cK d.ai.af p),[]):=by
 refine be func170 rfl ?_;have h:=xC (g:=172) (caps:=[.aK [[I p]] 0 0]) d.ai.af hm (fun x=>decide (x.peer=p)) (by simp) (by simp) (bL _) (fun x _=>by have:=Xe x p;simp[ax]at this;simp[ax,this])
 simp[f170,cV,h,cK]
def Ab(d:Dr)(hm:d.ai.af.length<=maxLen)(hn:d.need.length<=maxLen):aS tz ay 0 105 [.agg (cV d)]=some (aa (if dE d then 0 else 150),[]):=by
 refine be func105 rfl ?_;have a:=Fh d.ai hm;have c:=E4 d.need hn;have f:=ww (g:=170) (caps:=[.aK [cV d] 0 0]) d.need hn (fun p=>!cK d.ai.af p) (by simp) (by simp[cV]) (bi _) (fun p _=>by have:=abt d p hm;simp[cV]at this;simp[cV,this])
 simp only[dS]at a;simp only[aG]at c;simp only[cV,aG]at f;cases h:eA d.ai with
 |false=>simp[h]at a;simp[f105,cV,a,dE,h]
 |true=>
  simp[h]at a;by_cases i:d.aQ<0
  .simp[f105,cV,a,dE,h,i]
  by_cases j:2<d.aQ
  .simp[f105,cV,a,dE,h,i,j]
  cases l:ei d.need with
  |false=>simp[l]at c;simp[f105,cV,a,c,dE,h,i,j,l]
  |true=>
   simp[l]at c;have k:(d.need.any fun p=>!cK d.ai.af p)=true\/(d.need.any fun p=>!cK d.ai.af p)=false:=by cases d.need.any _<;>simp
   have b:dE d=(!(decide (d.aQ=0)&&!d.need.isEmpty)&&!(d.need.any fun p=>!cK d.ai.af p)):=by simp only[dE,h,l];simp[i,j]
   by_cases e:d.aQ=0
   .by_cases m:d.need=[]
    .simp[e,m]at c f b;simp[f105,cV,a,c,f,b,e,m]
    .have n:0<d.need.length:=akn.2 m;have o:d.need.isEmpty=false:=by simpa using m
     simp[e,o]at b;simp[f105,cV,a,c,b,e,n]
   .rcases k with k|k
    .simp only[k]at f b;simp[e]at b;simp[f105,cV,a,c,f,b,i,j,e]
    .simp only[k]at f b;simp[e]at b;simp[f105,cV,a,c,f,b,i,j,e]
def iQ(r:Dr×Int):au×List Ob:=if r.2=0 then(.aM [.agg [I r.1.ai.id,I r.1.ai.phase,.sl 0 0 0 r.1.ai.af.length,I r.1.aQ,aG r.1.need],aa 0],[ah 8 (r.1.ai.af.map ax)])else(.aM [.agg [I 0,I 0,.aj [],I 0,.aj []],aa r.2],[])
def zo(d:Dr)(hm:d.ai.af.length<=100)(hn:d.need.length<=100000):aS tz ay 0 262 [.agg (cV d)]=some (.agg [I d.ai.id,I d.ai.phase,.sl 0 0 0 d.ai.af.length,I d.aQ,aG d.need],[ah 8 (d.ai.af.map ax)]):=by refine be func262 rfl ?_;have b:=yi (a:= .aj (d.ai.af.map ax)) (l:=d.ai.af) rfl (by omega);have c:=vp (a:= .aj (d.need.map aC)) (l:=d.need) rfl (by omega);simp[f262,cV,b,c]
def Vb(d:Dr)(hm:d.ai.af.length<=100)(hn:d.need.length<=100000):aS tz ay 0 194 [.agg (cV d)]=some (iQ (lu d)):=by
 obtain⟨⟨v,o⟩,a⟩:∃r,iQ (lu d)=r:=⟨_,rfl⟩;rw[a];refine be func194 rfl ?_;have b:=Ab d (by unfold maxLen;omega) (by unfold maxLen;omega);have f:=zo d hm hn;simp only[cV,aG]at b f;cases e:dE d with
 |false=>simp[e,lu,iQ]at b a;obtain⟨rfl,rfl⟩:=a;simp[f194,cV,b]
 |true=>
  simp[e]at b;by_cases c:d.aQ=0
  .simp[e,lu,iQ,c]at a;obtain⟨rfl,rfl⟩:=a;simp[f194,cV,c];simp[c]at b;simp[b]
  .simp[e,lu,iQ,c]at a;obtain⟨rfl,rfl⟩:=a;simp[f194,cV,b,f,c]
def XR(x:aI)(p:Int)(m:cU):aS tz ay 0 320 [.agg (ax x),.c (.aK [[I p]] 0 0),.c (.aK [br m] 0 0)]=some (aR (jR p m.aP x),[]):=by
 refine be func320 rfl ?_;by_cases a:x.peer=p
 .by_cases b:x.aP=m.aP;all_goals simp[f320,ax,br,jR,a,b]
 .simp[f320,ax,br,jR,a]
def Y8(d:Dr)(p:Int)(m:cU)(hm:d.ai.af.length<=100)(hn:d.need.length<=100000):aS tz ay 0 277 [.agg (cV d),aa p,.agg (br m)]=some (iQ (gW d p m)):=by
 obtain⟨⟨v,o⟩,a⟩:∃r,iQ (gW d p m)=r:=⟨_,rfl⟩;rw[a];refine be func277 rfl ?_;have b:=Ab d (by unfold maxLen;omega) (by unfold maxLen;omega);have h:=zo d hm hn;have e:=yH (g:=320) (caps:=[.aK [[I p]] 0 0,.aK [br m] 0 0]) d.ai.af (by unfold maxLen;omega) (jR p m.aP) (fun x _=>by have:=XR x p m;simp[ax,br]at this;simp[ax,br,this])
 have f:=acS d.ai p m hm;simp only[cV,aG]at b h;simp only[br]at e;simp only[dS,br]at f;have u:=bL d.ai.af;unfold gW at a;cases D:dE d with
 |false=>simp[D,iQ]at b a;obtain⟨rfl,rfl⟩:=a;simp[f277,cV,br,b]
 |true=>
  simp[D]at b a;cases w:d.ai.af.find? (jR p m.aP)with
  |none=>
   rw[qG 0 w]at e;simp only[w]at a;by_cases c:(jV d.ai p m).2=0
   .simp[c,tW,iQ]at f a;obtain⟨rfl,rfl⟩:=a;simp[f277,cV,br,b,h,e,f,pD]
   .simp[c,nK,iQ]at f a;obtain⟨rfl,rfl⟩:=a;simp[f277,cV,br,b,h,e,f,c]
  |some x=>
   have⟨j,E,⟨y,z⟩,G⟩:=zL 0 w;rw[aiQ]at E;rw[E]at e;simp only[w,G]at a;have⟨i,k,l,n,q,s,t,ask⟩:=x;have⟨A,F,num⟩:=m;simp only at a e f;by_cases c2:num=0
   .subst c2;by_cases c3:A=3
    .subst c3;cases t with
     |true=>simp[iQ]at a;obtain⟨rfl,rfl⟩:=a;simp[f277,cV,br,b,h,e,y,z,ax]
     |false=>
      have u:ajo d.ai.af.length ((d.ai.af.map ax).set j [I i,I k,I l,B n,B q,B s,B true,B ask])=(d.ai.af.set j ⟨i,k,l,n,q,s,true,ask⟩).map ax:=by rw[ach (by simp),aix];rfl
      have C:bA ((d.ai.af.map ax).set j [I i,I k,I l,B n,B q,B s,B true,B ask])=true:=by have:=bL (d.ai.af.set j ⟨i,k,l,n,q,s,true,ask⟩);rw[aix]at this;exact this
      simp[iQ]at a;obtain⟨rfl,rfl⟩:=a;simp[f277,cV,br,b,h,e,u,C,y,z,ax]
    .by_cases c4:A=4
     .subst c4;cases ask with
      |true=>simp[iQ]at a;obtain⟨rfl,rfl⟩:=a;simp[f277,cV,br,b,h,e,y,z,ax]
      |false=>
       have u:ajo d.ai.af.length ((d.ai.af.map ax).set j [I i,I k,I l,B n,B q,B s,B t,B true])=(d.ai.af.set j ⟨i,k,l,n,q,s,t,true⟩).map ax:=by rw[ach (by simp),aix];rfl
       have C:bA ((d.ai.af.map ax).set j [I i,I k,I l,B n,B q,B s,B t,B true])=true:=by have:=bL (d.ai.af.set j ⟨i,k,l,n,q,s,t,true⟩);rw[aix]at this;exact this
       simp[iQ]at a;obtain⟨rfl,rfl⟩:=a;simp[f277,cV,br,b,h,e,u,C,y,z,ax]
     .simp[c3,c4]at a;by_cases c:(jV d.ai p ⟨A,F,0⟩).2=0
      .simp[c,tW,iQ]at f a;obtain⟨rfl,rfl⟩:=a;simp[f277,cV,br,b,h,e,f,pD,c3,c4]
      .simp[c,nK,iQ]at f a;obtain⟨rfl,rfl⟩:=a;simp[f277,cV,br,b,h,e,f,c,c3,c4]
   .simp[c2]at a;by_cases c:(jV d.ai p ⟨A,F,num⟩).2=0
    .simp[c,tW,iQ]at f a;obtain⟨rfl,rfl⟩:=a;simp[f277,cV,br,b,h,e,f,pD,c2]
    .simp[c,nK,iQ]at f a;obtain⟨rfl,rfl⟩:=a;simp[f277,cV,br,b,h,e,f,c,c2]
section
variable{Cs:List Nat}{a:ab}{H:List Ob}
def aaY(x:aI):aS tz ay 0 315 [.agg (ax x)]=some (aR (gM x),[]):=by refine be func315 rfl ?_;by_cases h:x.state=1;all_goals simp[f315,ax,gM,h]
def ME(a b:Dr)(hm:a.ai.af.length<=maxLen)(hn:a.need.length<=maxLen):aS tz ay 0 212 [.agg (cV a),.agg (cV b)]=some (aR (decide (a=b)),[]):=by
 refine be func212 rfl ?_;have h:=Yr a.ai b.ai hm;have c:=yG a.need b.need hn;have⟨d,t,n⟩:=a;have⟨i,j,k⟩:=b;simp only[dS]at h c;by_cases e:d=i
 case neg=>simp[e]at h;simp[f212,cV,h,e]
 by_cases g:t=j
 case neg=>simp[e]at h;simp[f212,cV,h,e,g]
 subst e;by_cases f:n=k
 .simp[f]at h c;simp[f212,cV,h,c,g,f]
 .simp[f]at h c;simp[f212,cV,h,c,g,f]
def nG(H:List Ob)(b:Nat)(c:ab)(l:List cB):Prop:=(l=[]/\c=ap)\/∃a d,a≠b/\c= .sl a d 0 l.length/\H[a]?=some (.live d 5 (l.map dX))
structure lI(H:List Ob)(b:Nat)(id ph:Int)(sl:ab)(th:Int)(nd ol:ab)(l:List cB):Prop where
 hb:H[b]?=some (ah 6 [[I id,I ph,sl,I th,nd,ol]])
 ho:nG H b ol l
def Fr(Cs:List Nat)(c d:ab)(H b:List Ob):Prop:=H.length<=b.length/\∀(m:Nat) (o:Ob),H[m]?=some o->m∉Cs->(∀v a n,c≠ .sl m v a n)->b[m]?=some o/\∀v a n,d≠ .sl m v a n
def Fr.refl(Cs:List Nat)(a:ab)(H:List Ob):Fr Cs a a H H:=⟨adt _,fun _ _ h _ b=>⟨h,b⟩⟩
def Fr.trans{b c:ab}{d e:List Ob}(h:Fr Cs a b H d)(f:Fr Cs b c d e):Fr Cs a c H e:=⟨aiZ h.1 f.1,fun m o i g j=>by have⟨k,l⟩:=h.2 m o i g j;exact f.2 m o k g l⟩
def Fr.mono{c:List Nat}{b:ab}{d:List Ob}(h:Fr Cs a b H d)(e:∀x∈Cs,x∈c):Fr c a b H d:=⟨h.1,fun m o f g i=>h.2 m o f (fun h=>g (e _ h)) i⟩
def Fr.set{n:Nat}(hn:n∈Cs)(y:Ob):Fr Cs a a H (H.set n y):=⟨by simp,fun m o b c d=>⟨by rw[aay (fun e=>by subst e;exact c hn)];exact b,d⟩⟩
def Fr.snoc{l:List Ob}:Fr Cs a a H (H++l):=⟨by simp,fun m o b d c=>⟨aV b,c⟩⟩
def RY{id j p:Int}{sl q u:ab}{b:Nat}{l:List cB}{H:List Ob}(h:lI H b id j sl p q u l)(x:aI)(k:Int)(E:l.length<=100000):
  ∃a c,bB tz (ev tz) 343 [aw b,.agg (ax x),aa k] H=some (.aM [],a)/\lI a b id j sl p q c (l++[fu id x k])/\Fr [b] u c H a:=by
 have⟨d,A⟩:=h
 have F:=bf d
 have B:=cG (C:=tz) (f:=343) (args:=[aw b,.agg (ax x),aa k]) (H:=H) (fun r a=>r= .aM []/\∃c,lI a b id j sl p q c (l++[fu id x k])/\Fr [b] u c H a) func343 rfl ?_
 .obtain ⟨r,a,g,rfl,c,i⟩:=B
  exact⟨a,c,g,i⟩
 rcases A with⟨rfl,rfl⟩|⟨z,s,t,rfl,w⟩
 .simp[f343,d,aV d,ax]
  refine⟨_,⟨ba (aV d),.inr ⟨H.length+1,0,by omega,rfl,?_⟩⟩,by simp,fun m o g i y=>⟨?_,fun v D n e=>?_⟩⟩
  .rw[aay (by omega),jd]
   rfl
  .rw[aay (fun e=>i (by simp[e]))]
   exact aV g
  .have:=bf g
   cases e
   omega
 .have G:=bf w
  simp[f343,d,t,aV d,aV w,ax,show l.length+1<=maxLen/\(l.length+1)*40<=140737488355328 from⟨by unfold maxLen;omega,by omega⟩]
  refine⟨_,⟨ba (x:=ah 6 [[I id,I j,sl,I p,q,.sl z s 0 l.length]]) (by rw[aay t];exact aV d),.inr ⟨z,s+1,t,by simp,?_⟩⟩,by simp,fun m o g i y=>⟨?_,fun v D n e=>?_⟩⟩
  .rw[aay (ain t),ba (aV w)]
   simp[fu,dX]
  .rw[aay (fun e=>i (by simp[e])),aay (fun e=>y s 0 l.length (by rw[e]))]
   exact aV g
  .cases e
   exact y s 0 l.length rfl
end
section
variable{H:List Ob}
section
variable{f:aI->aI}{g:aI->List cB}{p:aI->Bool}{l:List aI}{k:Nat}
def nv(f:aI->aI)(l:List aI)(k:Nat):List aI:=(l.take k).map f++l.drop k
def pW(g:aI->List cB)(l:List aI)(k:Nat):List cB:=(l.take k).flatMap g
def su(p:aI->Bool)(l:List aI)(k:Nat):Bool:=(l.take k).all p
def ae2(a:k<=l.length):(nv f l k).length=l.length:=by simp[nv];omega
def abI(a:k<l.length):(nv f l k)[k]?=some l[k]:=by unfold nv;rw[ad8 (by simp;omega)];simp[ajW (alk a),a]
def Vs(a:k<l.length):(nv f l k).set k (f l[k])=nv f l (k+1):=by
 unfold nv;have b:((l.take k).map f).length=k:=by simp;omega
 rw[ai9 (h:=by omega),b,ajx,jK a,afv a,ajL,agA,aio];rfl
def aey:nv f l l.length=l.map f:=by simp[nv]
def Yl:pW g l l.length=l.flatMap g:=by simp[pW]
def ab0:su p l l.length=l.all p:=by simp[su]
def adf(a:k<l.length):pW g l (k+1)=pW g l k++g l[k]:=by unfold pW;rw[jK a,ako,List.flatMap_singleton]
def acX(a:k<l.length):su p l (k+1)=(su p l k&&p l[k]):=by unfold su;rw[jK a,List.all_append,akp,al1,akL]
def PS(a:∀x,(g x).length<=2):∀l:List aI,(l.flatMap g).length<=2*l.length
 |[]=>by simp
 |x::r=>by
  have b:=a x
  have c:=PS a r
  simp only[ait,afu,ahP]
  omega
def WW(a:∀x,(g x).length<=2):(pW g l k).length<=2*k:=by
 have h:=PS a (l.take k);have b:(l.take k).length<=k:=by simp;omega
 unfold pW;omega
end
def nG.ne{b hs vs:Nat}{ol:ab}{l:List cB}{rows:List (List ab)}(h:nG H b ol l)(d:H[hs]?=some (.live vs 8 rows)):∀v a n,ol≠ .sl hs v a n:=by
 rintro v a n rfl;rcases h with⟨_,h⟩|⟨e,f,_,h,c⟩
 .cases h
 .cases h;rw[d]at c;cases c
def lI.row{b:Nat}{id ph th:Int}{sl nd ol:ab}{l:List cB}{hs vs:Nat}{rows:List (List ab)}(h:lI H b id ph sl th nd ol l)(f:H[hs]?=some (.live vs 8 rows))(g:hs≠b)(y:Ob):lI (H.set hs y) b id ph sl th nd ol l:=by
 have⟨i,a⟩:=h;refine⟨by rw[aay g];exact i,?_⟩;have j:=a.ne f;rcases a with a|⟨k,c,m,d,n⟩
 .exact .inl a
 .refine .inr ⟨k,c,m,d,?_⟩;rw[aay (fun e=>j c 0 l.length (by rw[d,e]))];exact n
structure RB(b hs vs n:Nat)(id ph th:Int)(nd ol0:ab)(H0:List Ob)(rows:List (List ab))(outs:List cB)(G:List Ob)(ol:ab):Prop where
 d:lI G b id ph (.sl hs vs 0 n) th nd ol outs
 r:G[hs]?=some (.live vs 8 rows)
 f:Fr [b,hs] ol0 ol H0 G
 ne:hs≠b
 k:ol0≠ap->ol≠ap
def nG.sn{b:Nat}{ol:ab}{l:List cB}{x:cB}(h:nG H b ol (l++[x])):ol≠ap:=by
 rcases h with⟨h,_⟩|⟨a,c,_,rfl,_⟩
 .simp at h
 .simp
section
variable{b hs vs n:Nat}{id ph th:Int}{nd ol0 ol:ab}{H0 G:List Ob}{rows:List (List ab)}{outs:List cB}
def RB.set(h:RB b hs vs n id ph th nd ol0 H0 rows outs G ol)(a:List (List ab)):RB b hs vs n id ph th nd ol0 H0 a outs (G.set hs (.live vs 8 a)) ol:=
 ⟨h.d.row h.r h.ne _,ba h.r,h.f.trans (Fr.set (by simp) _),h.ne,h.k⟩
def RB.send(h:RB b hs vs n id ph th nd ol0 H0 rows outs G ol)(x:aI)(K:Int)(i:outs.length<=100000):∃a c,bB tz (ev tz) 343 [aw b,.agg [I x.peer,I x.aP,I x.state,B x.fork,B x.cJ,B x.token,B x.dd,B x.ask],aa K] G=some (.aM [],a)/\RB b hs vs n id ph th nd ol0 H0 rows (outs++[fu id x K]) a c:=by have⟨a,c,j,e,g⟩:=RY h.d x K i;exact⟨a,c,j,e,(g.2 _ _ h.r (by simp[h.ne]) (h.d.ho.ne h.r)).1,h.f.trans (g.mono (by simp)),h.ne,fun _=>e.ho.sn⟩
def nG.LP{b:Nat}{ol:ab}{l:List cB}(h:nG H b ol l)(y:Ob):nG (H.set b y) b ol l:=by
 rcases h with h|⟨c,d,a,e,f⟩
 .exact .inl h
 .exact .inr ⟨c,d,a,e,by rw[aay (ain a)];exact f⟩
def RB.bJ(h:RB b hs vs n id ph th nd ol0 H0 rows outs G ol)(a c:Int):RB b hs vs n id a c nd ol0 H0 rows outs (G.set b (ah 6 [[I id,I a,.sl hs vs 0 n,I c,nd,ol]])) ol:=
 ⟨⟨ba h.d.hb,h.d.ho.LP _⟩,by rw[aay (ain h.ne)];exact h.r,h.f.trans (Fr.set (by simp) _),h.ne,h.k⟩
def RB.fin(h:RB b hs vs n id ph th nd ol0 H0 rows outs G ol){a:List (List ab)}{c:List cB}(d:rows=a)(e:outs=c):∃ol,RB b hs vs n id ph th nd ol0 H0 a c G ol:=by subst d e;exact⟨ol,h⟩
end
def UD(id th:Int)(need:List Int)(x:aI):(bM id th need x).2.length<=2:=by simp only[bM];split<;>split<;>simp
def gI(id th:Int)(need:List Int)(x:aI):Bool:=!decide (x.peer∈need)||(bM id th need x).1.dd
def PQ(id th:Int)(need:List Int)(x:aI):(bM id th need x).1.peer=x.peer:=by simp only[bM];split<;>split<;>rfl
def YU{id ph th:Int}{need:List Int}{af:List aI}{ol0:ab}{b hs vs:Nat}{l:List cB}{H0:List Ob}(ad:lI H0 b id ph (.sl hs vs 0 af.length) th (aG need) ol0 l)(h2:H0[hs]?=some (.live vs 8 (af.map ax)))(ai:hs≠b)(hm:af.length<=100)(hn:need.length<=100000)(hl:l.length<=50000):
  ∃T Y,bB tz (ev tz) 317 [aw b] H0=some (.aM [],T)/\RB b hs vs af.length id ph (if th=1/\af.all (gI id th need)=true then 2 else th) (aG need) ol0 H0 ((af.map fun x=>(bM id th need x).1).map ax) (l++af.flatMap fun x=>(bM id th need x).2) T Y:=by
 have⟨aj,Q⟩:=ak (if th=1/\af.all (gI id th need)=true then 2 else th:Int)
 have⟨Rf,ae⟩:=ak ((af.map fun x=>(bM id th need x).1).map ax)
 have⟨Of,ny⟩:=ak (af.flatMap fun x=>(bM id th need x).2)
 rw[Q,ae,ny]
 have al:=cG (C:=tz) (f:=317) (args:=[aw b]) (H:=H0) (fun ag T=>ag= .aM []/\∃Y,RB b hs vs af.length id ph aj (aG need) ol0 H0 Rf (l++Of) T Y) func317 rfl ?_
 .obtain ⟨ag,T,h1,rfl,Y,h2⟩:=al
  exact⟨T,Y,h1,h2⟩
 have hb:=ad.hb
 simp[f317,underlying59,hb]
 refine ia (fun k:Nat=>[(13,aa af.length),(14,aa k),(0,aw b),(2,aR (su (gI id th need) af k))]) (fun k H=>k<=af.length/\∃ol,RB b hs vs af.length id ph th (aG need) ol0 H0 ((nv (fun x=>(bM id th need x).1) af k).map ax) (l++pW (fun x=>(bM id th need x).2) af k) H ol) (fun k=>af.length-k) ?_ 0 (by simp[su]) ⟨by omega,ol0,by simpa[nv,pW]using⟨ad,h2,Fr.refl _ _ _,ai,fun ad=>ad⟩⟩ fun _=>rfl
 rintro k an H⟨m,n,i,o,_⟩⟨g1,ol,j⟩
 have s:=j.d.hb
 have u:=j.r
 simp only[aG]at s
 by_cases q:k<af.length
 .have D:ads.wrap ((k:Int)+1)=((k+1:Nat):Int):=cr (by omega)
  have h:=abI (f:=fun x=>(bM id th need x).1) q
  have t:=Vs (f:=fun x=>(bM id th need x).1) q
  have v:=adf (g:=fun x=>(bM id th need x).2) q
  have w:=acX (p:=gI id th need) q
  have q5:=ae2 (f:=fun x=>(bM id th need x).1) (alk q)
  have q6:=WW (l:=af) (k:=k) (UD id th need)
  have⟨x,hx⟩:=ak af[k]
  rw[hx]at h t v w
  have⟨R,hR⟩:=ak (nv (fun x=>(bM id th need x).1) af k)
  have⟨R',z⟩:=ak (nv (fun x=>(bM id th need x).1) af (k+1))
  have⟨ao,hO⟩:=ak (pW (fun x=>(bM id th need x).2) af k)
  rw[hR]at h t q5 j u
  rw[z]at t
  rw[hO]at v q6 j
  have c:k<R.length:=by omega
  have⟨F,G,J,S,K,L,U,ask⟩:=x
  have V:∀y,(H.set hs y)[hs]?=some y:=fun y=>ba u
  have A:=qv need F (by unfold maxLen;omega)
  simp only[aG]at A
  have ap:=j.ne
  have aq:=ain j.ne
  have⟨E,W⟩:=ak (su (gI id th need) af k)
  rw[W]at o w
  by_cases a:F∈need
  .by_cases c1:th=1
   .subst c1
    cases S with
    |true=>
     cases U with
     |true=>
      cases ask
      all_goals
       cases E
       all_goals
        simp[-getElem?_pos,-aae,m,n,i,o,q,D,s,u,h,c,ax,A,a]
        exact⟨k+1,by omega,by simp[w,gI,bM,a],by omega,j.fin (by rw[z];have e:=t;simp[bM,a]at e;rw[<-e,jb c (by simpa using(aa3.1 h).2)]) (by rw[v];simp[bM,a])⟩
     |false=>
      cases ask with
      |true=>
       cases E
       all_goals
        simp[-getElem?_pos,-aae,m,n,i,q,s,u,h,c,V,ax,A,a]
        have⟨O,Z,P,r⟩:=(j.set ((R.map ax).set k [I F,I G,I J,B true,B K,B L,B false,B false])).send ⟨F,G,J,true,K,L,false,false⟩ 4 (by first|omega|(simp;omega))
        rw[P]
        have M:=r.d.hb
        have N:=r.r
        simp only[aG]at M
        have X:∀y,(O.set hs y)[hs]?=some y:=fun y=>ba N
        simp[m,n,i,o,D,N,c]
        exact⟨k+1,by omega,by simp[w,gI,bM,a],by omega,r.fin (by rw[z, <-t,aix];simp[bM,ax,a]) (by rw[v];simp[bM,fu,a])⟩
      |false=>
       cases E
       all_goals
        simp[-getElem?_pos,-aae,m,n,i,o,q,D,s,u,h,c,ax,A,a]
        exact⟨k+1,by omega,by simp[w,gI,bM,a],by omega,j.fin (by rw[z];have e:=t;simp[bM,a]at e;rw[<-e,jb c (by simpa using(aa3.1 h).2)]) (by rw[v];simp[bM,a])⟩
    |false=>
     cases U with
     |true=>
      cases ask with
      |true=>
       cases E
       all_goals
        simp[-getElem?_pos,-aae,m,n,i,q,s,u,h,c,V,ax,A,a]
        have⟨O,Z,P,r⟩:=(j.set ((R.map ax).set k [I F,I G,I J,B false,B K,B L,B false,B true])).send ⟨F,G,J,false,K,L,false,true⟩ 3 (by first|omega|(simp;omega))
        rw[P]
        have M:=r.d.hb
        have N:=r.r
        simp only[aG]at M
        have X:∀y,(O.set hs y)[hs]?=some y:=fun y=>ba N
        simp[i,M,N,X,c]
        have⟨G1,o1,e1,r1⟩:=(r.set (((R.map ax).set k [I F,I G,I J,B false,B K,B L,B false,B true]).set k [I F,I G,I J,B false,B K,B L,B false,B false])).send ⟨F,G,J,false,K,L,false,false⟩ 4 (by first|omega|(simp;omega))
        simp only[ajB]at e1 r1
        rw[e1]
        have am:=r1.d.hb
        have ah:=r1.r
        simp only[aG]at am
        have ar:∀y,(G1.set hs y)[hs]?=some y:=fun y=>ba ah
        simp[m,n,i,o,D,ah,c]
        exact⟨k+1,by omega,by simp[w,gI,bM,a],by omega,r1.fin (by rw[z, <-t,aix];simp[bM,ax,a]) (by rw[v];simp[bM,fu,a])⟩
      |false=>
       cases E
       all_goals
        simp[-getElem?_pos,-aae,m,n,i,o,q,D,s,u,h,c,ax,A,a]
        exact⟨k+1,by omega,by simp[w,gI,bM,a],by omega,j.fin (by rw[z];have e:=t;simp[bM,a]at e;rw[<-e,jb c (by simpa using(aa3.1 h).2)]) (by rw[v];simp[bM,a])⟩
     |false=>
      cases ask with
      |true=>
       cases E
       all_goals
        simp[-getElem?_pos,-aae,m,n,i,q,s,u,h,c,V,ax,A,a]
        have⟨O,Z,P,r⟩:=(j.set ((R.map ax).set k [I F,I G,I J,B false,B K,B L,B false,B false])).send ⟨F,G,J,false,K,L,false,false⟩ 4 (by first|omega|(simp;omega))
        rw[P]
        have M:=r.d.hb
        have N:=r.r
        simp only[aG]at M
        have X:∀y,(O.set hs y)[hs]?=some y:=fun y=>ba N
        simp[m,n,i,o,D,N,c]
        exact⟨k+1,by omega,by simp[w,gI,bM,a],by omega,r.fin (by rw[z, <-t,aix];simp[bM,ax,a]) (by rw[v];simp[bM,fu,a])⟩
      |false=>
       cases E
       all_goals
        simp[-getElem?_pos,-aae,m,n,i,o,q,D,s,u,h,c,ax,A,a]
        exact⟨k+1,by omega,by simp[w,gI,bM,a],by omega,j.fin (by rw[z];have e:=t;simp[bM,a]at e;rw[<-e,jb c (by simpa using(aa3.1 h).2)]) (by rw[v];simp[bM,a])⟩
   .by_cases c2:th=2
    .subst c2
     cases U with
     |true=>
      cases ask
      all_goals
       cases E
       all_goals
        simp[-getElem?_pos,-aae,m,n,i,o,q,D,s,u,h,c,ax,A,a]
        exact⟨k+1,by omega,by simp[w,gI,bM,a],by omega,j.fin (by rw[z];have e:=t;simp[bM,a]at e;rw[<-e,jb c (by simpa using(aa3.1 h).2)]) (by rw[v];simp[bM,a])⟩
     |false=>
      cases E
      all_goals
       simp[-getElem?_pos,-aae,m,n,i,o,q,D,s,u,h,c,ax,A,a]
       exact⟨k+1,by omega,by simp[w,gI,bM,a],by omega,j.fin (by rw[z];have e:=t;simp[bM,a]at e;rw[<-e,jb c (by simpa using(aa3.1 h).2)]) (by rw[v];simp[bM,a])⟩
    .cases U with
     |true=>
      cases ask with
      |true=>
       cases E
       all_goals
        simp[-getElem?_pos,-aae,m,n,i,q,s,u,h,c,V,ax,A,a,c1,c2]
        have⟨O,Z,P,r⟩:=(j.set ((R.map ax).set k [I F,I G,I J,B S,B K,B L,B false,B true])).send ⟨F,G,J,S,K,L,false,true⟩ 3 (by first|omega|(simp;omega))
        rw[P]
        have M:=r.d.hb
        have N:=r.r
        simp only[aG]at M
        have X:∀y,(O.set hs y)[hs]?=some y:=fun y=>ba N
        simp[m,n,i,o,D,M,N,c,c1]
        exact⟨k+1,by omega,by simp[w,gI,bM,a,c1,c2],by omega,r.fin (by rw[z, <-t,aix];simp[bM,ax,a,c1,c2]) (by rw[v];simp[bM,fu,a,c1,c2])⟩
      |false=>
       cases E
       all_goals
        simp[-getElem?_pos,-aae,m,n,i,o,q,D,s,u,h,c,ax,A,a,c1,c2]
        exact⟨k+1,by omega,by simp[w,gI,bM,a,c1,c2],by omega,j.fin (by rw[z];have e:=t;simp[bM,a,c1,c2]at e;rw[<-e,jb c (by simpa using(aa3.1 h).2)]) (by rw[v];simp[bM,a,c1,c2])⟩
     |false=>
      cases E
      all_goals
       simp[-getElem?_pos,-aae,m,n,i,o,q,D,s,u,h,c,ax,A,a,c1,c2]
       exact⟨k+1,by omega,by simp[w,gI,bM,a,c1,c2],by omega,j.fin (by rw[z];have e:=t;simp[bM,a,c1,c2]at e;rw[<-e,jb c (by simpa using(aa3.1 h).2)]) (by rw[v];simp[bM,a,c1,c2])⟩
  .by_cases c1:th=1
   .subst c1
    cases U with
    |true=>
     cases ask with
     |true=>
      cases E
      all_goals
       simp[-getElem?_pos,-aae,m,n,i,q,s,u,h,c,V,ax,A,a]
       have⟨O,Z,P,r⟩:=(j.set ((R.map ax).set k [I F,I G,I J,B S,B K,B L,B false,B true])).send ⟨F,G,J,S,K,L,false,true⟩ 3 (by first|omega|(simp;omega))
       rw[P]
       have M:=r.d.hb
       have N:=r.r
       simp only[aG]at M
       have X:∀y,(O.set hs y)[hs]?=some y:=fun y=>ba N
       simp[m,n,i,o,D,M]
       exact⟨k+1,by omega,by simp[w,gI,bM,a],by omega,r.fin (by rw[z, <-t,aix];simp[bM,ax,a]) (by rw[v];simp[bM,fu,a])⟩
     |false=>
      cases E
      all_goals
       simp[-getElem?_pos,-aae,m,n,i,o,q,D,s,u,h,c,ax,A,a]
       exact⟨k+1,by omega,by simp[w,gI,bM,a],by omega,j.fin (by rw[z];have e:=t;simp[bM,a]at e;rw[<-e,jb c (by simpa using(aa3.1 h).2)]) (by rw[v];simp[bM,a])⟩
    |false=>
     cases E
     all_goals
      simp[-getElem?_pos,-aae,m,n,i,o,q,D,s,u,h,c,ax,A,a]
      exact⟨k+1,by omega,by simp[w,gI,bM,a],by omega,j.fin (by rw[z];have e:=t;simp[bM,a]at e;rw[<-e,jb c (by simpa using(aa3.1 h).2)]) (by rw[v];simp[bM,a])⟩
   .cases U with
    |true=>
     cases ask with
     |true=>
      cases E
      all_goals
       simp[-getElem?_pos,-aae,m,n,i,q,s,u,h,c,V,ax,A,a]
       have⟨O,Z,P,r⟩:=(j.set ((R.map ax).set k [I F,I G,I J,B S,B K,B L,B false,B true])).send ⟨F,G,J,S,K,L,false,true⟩ 3 (by first|omega|(simp;omega))
       rw[P]
       have M:=r.d.hb
       have N:=r.r
       simp only[aG]at M
       have X:∀y,(O.set hs y)[hs]?=some y:=fun y=>ba N
       simp[m,n,i,o,D,M,c1]
       exact⟨k+1,by omega,by simp[w,gI,bM,a,c1],by omega,r.fin (by rw[z, <-t,aix];simp[bM,ax,a,c1]) (by rw[v];simp[bM,fu,a,c1])⟩
     |false=>
      cases E
      all_goals
       simp[-getElem?_pos,-aae,m,n,i,o,q,D,s,u,h,c,ax,A,a,c1]
       exact⟨k+1,by omega,by simp[w,gI,bM,a,c1],by omega,j.fin (by rw[z];have e:=t;simp[bM,a,c1]at e;rw[<-e,jb c (by simpa using(aa3.1 h).2)]) (by rw[v];simp[bM,a,c1])⟩
    |false=>
     cases E
     all_goals
      simp[-getElem?_pos,-aae,m,n,i,o,q,D,s,u,h,c,ax,A,a,c1]
      exact⟨k+1,by omega,by simp[w,gI,bM,a,c1],by omega,j.fin (by rw[z];have e:=t;simp[bM,a,c1]at e;rw[<-e,jb c (by simpa using(aa3.1 h).2)]) (by rw[v];simp[bM,a,c1])⟩
 .obtain rfl:k=af.length:=by omega
  rw[ab0]at o
  rw[aey,Yl,ae,ny]at j
  by_cases c1:th=1
  .subst c1
   cases W:af.all (gI id 1 need)with
   |true=>
    rw[W]at o
    simp[i,o,m,n,s]
    simp[W]at Q
    subst Q
    exact⟨ol,j.bJ ph 2⟩
   |false=>
    rw[W]at o
    simp[i,o,m,n,s]
    rw[if_neg (by simp[W])]at Q
    subst Q
    exact⟨ol,j⟩
  .simp[i,m,n,s,c1]
   simp[c1]at Q
   subst Q
   exact⟨ol,j⟩
end
section
variable{H:List Ob}{b:Nat}{ol:ab}{l:List cB}
def Nc(d:cP)(h:eA d=true):(fA d).1.id=d.id:=by rw[CY d h];split<;>rfl
def YR{d:cP}(h:eA d=true){p:Int}(e:0<=p)(f:p<=2):eA ⟨d.id,p,d.af⟩=true:=by simp only[eA,aa2,afj,decide_eq_false_iff_not]at h|-;have⟨⟨⟨⟨a,g⟩,i⟩,b⟩,c⟩:=h;exact⟨⟨⟨⟨a,by omega⟩,by omega⟩,b⟩,c⟩
def qe{d:Dr}(h:dE d=true):eA ⟨d.ai.id,eF d,d.ai.af⟩=true:=by
 have a:eA d.ai=true:=by simp only[dE,aa2]at h;exact h.1.1.1.1.1
 have b:0<=d.ai.phase/\d.ai.phase<=2:=by simp only[eA,aa2,afj,decide_eq_false_iff_not]at a;omega
 refine YR a ?_ ?_<;>unfold eF<;>split<;>(try omega)<;>split<;>omega
def nG.snoc(h:nG H b ol l)(x:List Ob):nG (H++x) b ol l:=by
 rcases h with h|⟨a,c,d,e,f⟩
 .exact .inl h
 .exact .inr ⟨a,c,d,e,aV f⟩
def nG.new{m:Nat}(h:nG H b ol l)(hm:H.length<=m):∀v a n,ol≠ .sl m v a n:=by
 rintro v a n rfl;rcases h with⟨_,h⟩|⟨d,e,_,h,c⟩
 .cases h
 .cases h;have:=bf c;omega
def PK(H:List Ob)(b:Nat)(ol c:ab)(fo:List cB):Prop:=(fo=[]/\c=ap)\/∃a,c= .sl a 0 0 fo.length/\H[a]?=some (ah 5 (fo.map dX))/\a≠b/\∀v d n,ol≠ .sl a v d n
def Fr.fresh{x:List Ob}(y:Ob)(c d f:Nat):Fr [b] ol (.sl H.length c d f) H ((H++x).set b y):=⟨by simp,fun m o a g h=>by refine⟨by rw[aay (fun e=>g (by simp[e]))];exact aV a,fun v i n e=>?_⟩;have:=bf a;cases e;omega⟩
def Fr.same{a v c n f g h:Nat}(z y:Ob):Fr [b] (.sl a v c n) (.sl a f g h) H ((H.set a z).set b y):=⟨by simp,fun m o i j k=>by have d:a≠m:=fun e=>k v c n (by rw[e]);refine⟨by rw[aay (fun e=>j (by simp[e])),aay d];exact i,fun v c n e=>?_⟩;cases e;exact d rfl⟩
def Fr.cut{m:Nat}{x y z:ab}{G K:List Ob}(h:Fr [b] x y H G)(c:Fr [b,m] y z G K)(hm:H.length<=m):Fr [b] x z H K:=⟨aiZ h.1 c.1,fun n o d a e=>by have⟨f,g⟩:=h.2 n o d a e;have:=bf d;exact c.2 n o f (by simp at a|-;exact⟨a,by omega⟩) g⟩
def aeL(id a:Int)(need:List Int)(l:List aI):((l.map fun x=>(bM id a need x).1).all fun x=>!decide (x.peer∈need)||x.dd)=l.all (gI id a need):=by
 rw[aj4];congr 1
 funext x
 simp only[Function.comp,gI,PQ]
def PR(d:cP)(h:eA d=true):(fA d).1.af.length=d.af.length/\(fA d).2.1.length<=2*d.af.length:=by
 rw[CY d h];have a:=yf d d.af.length;have b:=Pn d d.af.length;split
 .exact ⟨by simp[a],b⟩
 .exact ⟨a,b⟩
structure F4(H:List Ob)(b hs vs:Nat)(id ph th:Int)(nd ol0:ab)(l:List cB)(af:List aI)(G:List Ob):Prop where
 d:lI G b id ph (.sl hs vs 0 af.length) th nd ol0 l
 r:G[hs]?=some (.live vs 8 (af.map ax))
 f:Fr [b] ol0 ol0 H G
structure F5(H:List Ob)(b n:Nat)(sl:ab)(fi ph fp th:Int)(nd ol0 fol:ab)(l fo:List cB)(fs:List aI)(m c:Nat)(G:List Ob):Prop where
 d:lI G b fi ph sl th nd ol0 l
 r:G[m]?=some (ah 8 (fs.map ax))
 c:G[c]?=some (ah 3 [[I fi,I fp,.sl m 0 0 n]])
 m1:H.length<=m
 m2:m≠b
 o:PK G b ol0 fol fo
 f:Fr [b] ol0 ol0 H G
structure F6(H:List Ob)(b n:Nat)(fi fp th:Int)(nd ol0 fol:ab)(l fo:List cB)(fs:List aI)(m:Nat)(G:List Ob):Prop where
 d:lI G b fi fp (.sl m 0 0 n) th nd ol0 l
 r:G[m]?=some (ah 8 (fs.map ax))
 m1:H.length<=m
 m2:m≠b
 o:PK G b ol0 fol fo
 f:Fr [b] ol0 ol0 H G
structure F7(H:List Ob)(b n:Nat)(fi fp th:Int)(nd ol0 ol1:ab)(l:List cB)(fs:List aI)(m:Nat)(G:List Ob):Prop where
 d:lI G b fi fp (.sl m 0 0 n) th nd ol1 l
 r:G[m]?=some (ah 8 (fs.map ax))
 m1:H.length<=m
 m2:m≠b
 f:Fr [b] ol0 ol1 H G
 k:ol1≠ap
def MS{id j a:Int}{need:List Int}{af:List aI}{s:ab}{b K L:Nat}{l:List cB}{w:List Ob}(M:RB b K L af.length id j a (aG need) s w (af.map ax) l w s)(Z:dE ⟨⟨id,j,af⟩,a,need⟩=true)(hm:af.length<=100)(hn:need.length<=100000)(hl:l.length<=40000):
  ∃u z m,bB tz (ev tz) 267 [aw b] w=some (.aM [],u)/\lI u b id (cv ⟨⟨id,j,af⟩,a,need⟩).1.ai.phase (.sl m 0 0 (cv ⟨⟨id,j,af⟩,a,need⟩).1.ai.af.length) (cv ⟨⟨id,j,af⟩,a,need⟩).1.aQ (aG need) z (l++(cv ⟨⟨id,j,af⟩,a,need⟩).2)/\u[m]?=some (ah 8 ((cv ⟨⟨id,j,af⟩,a,need⟩).1.ai.af.map ax))/\w.length<=m/\m≠b/\Fr [b] s z w u/\z≠ap:=by
 obtain⟨⟨⟨⟨i',an,ae⟩,ao,az⟩,aq⟩,N⟩:∃x,cv ⟨⟨id,j,af⟩,a,need⟩=x:=⟨_,rfl⟩
 rw[N]
 simp only
 have ar:=cG (C:=tz) (f:=267) (args:=[aw b]) (H:=w) (fun ag u=>ag= .aM []/\∃z m,lI u b id an (.sl m 0 0 ae.length) ao (aG need) z (l++aq)/\u[m]?=some (ah 8 (ae.map ax))/\w.length<=m/\m≠b/\Fr [b] s z w u/\z≠ap) func267 rfl ?_
 .obtain ⟨ag,u,h1,rfl,z,m,h2⟩:=ar
  exact⟨u,z,m,h1,h2⟩
 simp only[f267,bX]
 refine ef (fun S=>S.env.get 0=some (aw b)/\S.env.get 2=some (.c (.bG 315 []))/\S.heap=w/\S.bH=[]) (by simp) ?_
 rintro⟨e,H,ds⟩⟨h,a2,rfl,rfl⟩
 simp only at h a2
 refine bp [(0,aw b)] (fun G=>F4 H b K L id (eF ⟨⟨id,j,af⟩,a,need⟩) a (aG need) s l af G) ?_ ?_
 .have F:=M.d.hb
  have kr:=M.r
  simp only[aG]at F
  have R:=xC (g:=315) (caps:=[]) af (by unfold maxLen;omega) gM (by simp) (by simp) (bL _) (fun x _=>by
   have:=aaY x
   simp[ax]at this
   simp[ax,this])
  have f4:∀aa,eF ⟨⟨id,j,af⟩,a,need⟩=aa->F4 H b K L id (eF ⟨⟨id,j,af⟩,a,need⟩) a (aG need) s l af (H.set b (ah 6 [[I id,I aa,.sl K L 0 af.length,I a,aG need,s]])):=by
   rintro aa rfl
   exact⟨(M.bJ _ a).d,(M.bJ _ a).r,Fr.set (by simp) _⟩
  have f5:eF ⟨⟨id,j,af⟩,a,need⟩=j->F4 H b K L id (eF ⟨⟨id,j,af⟩,a,need⟩) a (aG need) s l af H:=by
   intro ad
   rw[ad]
   exact⟨M.d,M.r,Fr.refl _ _ _⟩
  by_cases c1:a=1
  .subst c1
   by_cases c2:j=0
   .subst c2
    simp[h,F]
    exact f4 1 (by simp[eF])
   .by_cases c3:j=2
    .subst c3
     simp[h,F]
     exact f5 (by simp[eF])
    .simp[h,F,c2,c3]
     exact f5 (by simp[eF,c2,c3])
  .by_cases c3:j=2
   .subst c3
    cases q:af.any gM with
    |true=>
     rw[q]at R
     simp[h,a2,F,kr,R,c1]
     exact f5 (by simp only[eF,q];simp)
    |false=>
     rw[q]at R
     simp[h,a2,F,kr,R,c1]
     exact f4 0 (by simp only[eF,q];simp[c1])
   .simp[h,F,c1,c3]
    exact f5 (by simp[eF,c1,c3])
 rintro e G⟨h,_⟩⟨⟨i,r⟩,n,o⟩
 have A:=afo ⟨id,eF ⟨⟨id,j,af⟩,a,need⟩,af⟩ hm
 rw[if_neg (by rw[qe Z];simp)]at A
 have hid:=Nc _ (qe Z)
 have T:=PR _ (qe Z)
 simp only[cv]at N
 simp only at hid T
 obtain⟨⟨⟨U,fp,O⟩,fo,fc⟩,hF⟩:∃x,fA ⟨id,eF ⟨⟨id,j,af⟩,a,need⟩,af⟩=x:=⟨_,rfl⟩
 rw[hF]at A hid N T
 simp only at A hid N T
 have⟨aA,aB⟩:=T
 subst hid
 have⟨PH,au⟩:=ak (eF ⟨⟨U,j,af⟩,a,need⟩)
 rw[au]at i A
 simp only[dS]at A
 simp only[aG]at i
 have lb:=bf i
 refine ef (fun S=>∃m c P,S.env.get 0=some (aw b)/\S.env.get 3=some (aw c)/\S.env.get 4=some (.c P)/\S.bH=[]/\F5 H b O.length (.sl K L 0 af.length) U PH fp a (aG need) s P l fo O m c S.heap) ?_ ?_
 .by_cases B:fo=[]
  .subst B
   simp only[tR,if_true]at A
   simp[h,i,n,A,pD]
   exact⟨G.length,⟨aV i,r.snoc _⟩,by simp,by simp,o.1,by omega,.inl ⟨rfl,rfl⟩,o.trans Fr.snoc⟩
  .simp only[tR,if_neg B]at A
   simp[h,i,n,A,pD,Rb]
   exact⟨G.length,⟨aV i,r.snoc _⟩,by simp,by simp,o.1,by omega,.inr ⟨G.length+1,rfl,by simp,by omega,r.new (by omega)⟩,o.trans Fr.snoc⟩
 clear i r n o h lb
 rintro⟨e,G,ds⟩⟨m,c,P,h,a3,v,rfl,⟨⟨i,r⟩,n,hc,E,p,B,o⟩⟩
 simp only at h a3 v i r n hc B o
 refine bp [(0,aw b),(4,.c P)] (fun G=>F6 H b O.length U fp a (aG need) s P l fo O m G) ?_ ?_
 .simp[h,a3,v,i,hc]
  refine⟨⟨ba i,r.LP _⟩,by rw[aay (ain p)];exact n,E,p,?_,o.trans (Fr.set (by simp) _)⟩
  rcases B with ad|⟨mo,g1,Q,g3,g4⟩
  .exact .inl ad
  .exact .inr ⟨mo,g1,by rw[aay (ain g3)];exact Q,g3,g4⟩
 clear i r n o h a3 v hc B
 rintro e G⟨h,v,_⟩⟨⟨i,r⟩,n,_,_,B,o⟩
 refine bp [(0,aw b)] (fun G=>∃aj,F7 H b O.length U fp a (aG need) s aj (l++fo) O m G) ?_ ?_
 .have b1:l.length<=maxLen/\l.length*40<=140737488355328:=⟨by unfold maxLen;omega,by omega⟩
  have b2:fo.length<=maxLen/\fo.length*40<=140737488355328:=⟨by unfold maxLen;omega,by omega⟩
  have b3:l.length+fo.length<=maxLen/\(l.length+fo.length)*40<=140737488355328:=⟨by unfold maxLen;omega,by omega⟩
  have al:∀x:cB,(dX x).length=5:=fun _=>rfl
  have lb:=bf i
  have V:∀x,(G++x)[b]?=_:=fun x=>aV i
  rcases B with⟨rfl,rfl⟩|⟨mo,rfl,Q,g3,g4⟩
  .rcases r with⟨rfl,rfl⟩|⟨q,W,D,rfl,t⟩
   .simp[h,v,i,V]
    exact⟨_,⟨ba (V _),.inr ⟨G.length,0,by omega,rfl,by rw[aay (by omega)];simp⟩⟩,by rw[aay (ain p)];exact aV n,E,p,o.trans (Fr.fresh _ _ _ _),by simp⟩
   .have J:∀y,(G.set q y)[b]?=_:=fun y=>(aay D).trans i
    have X:q≠m:=fun e=>by subst e;rw[n]at t;cases t
    simp[h,v,i,b1,t,J]
    exact⟨_,⟨ba (J _),.inr ⟨q,W+1,D,by simp,by rw[aay (ain D),ba t]⟩⟩,by rw[aay (ain p),aay X];exact n,E,p,o.trans (Fr.same _ _),by simp⟩
  .rcases r with⟨rfl,rfl⟩|⟨q,W,D,rfl,t⟩
   .simp[h,v,i,V,b2,al,Q]
    exact⟨_,⟨ba (V _),.inr ⟨G.length,0,by omega,by simp,by rw[aay (by omega)];simp⟩⟩,by rw[aay (ain p)];exact aV n,E,p,o.trans (Fr.fresh _ _ _ _),by simp⟩
   .have J:∀y,(G.set q y)[b]?=_:=fun y=>(aay D).trans i
    have X:q≠m:=fun e=>by subst e;rw[n]at t;cases t
    by_cases am:fo=[]
    .subst am
     simp[h,v,i,b1,t,J,Q]
     exact⟨_,⟨ba (J _),.inr ⟨q,W+1,D,by simp,by rw[aay (ain D),ba t]⟩⟩,by rw[aay (ain p),aay X];exact n,E,p,o.trans (Fr.same _ _),by simp⟩
    .have q1:0<fo.length:=akn.2 am
     have q2:¬l.length+fo.length<=l.length:=by omega
     simp[h,v,i,b3,al,t,J,Q,q1,q2]
     exact⟨_,⟨ba (J _),.inr ⟨q,W+1,D,by simp,by rw[aay (ain D),ba t];simp⟩⟩,by rw[aay (ain p),aay X];exact n,E,p,o.trans (Fr.same _ _),by simp⟩
 clear i r n o h v B
 rintro e G⟨h,_⟩⟨aj,⟨av,n,_,_,o,hk⟩⟩
 have⟨G1,ay,e1,Y⟩:=YU av n p (by omega) hn (by simp;omega)
 simp only[qX,aeL,aca,Dr.mk.injEq,cP.mk.injEq]at N
 obtain⟨⟨⟨rfl,rfl,rfl⟩,rfl,rfl⟩,rfl⟩:=N
 simp[-ai6,h,e1]
 refine⟨ay,m,?_,?_,E,p,o.cut Y.f E,Y.k hk⟩
 .have:=Y.d
  simp only[af8,aio]at this
  exact this
 .exact Y.r
end
section
variable{d:Dr}
def Pu(id c:Int)(x:aI):eh (cI id c x).1+(cI id c x).2.length=eh x:=by
 have⟨p,e,s,f,d,t,b,a⟩:=x;by_cases g:c=1
 .subst g;cases f<;>cases d<;>cases t<;>simp[cI,eh,cj]<;>omega
 .by_cases h:c=2
  .subst h;cases f<;>cases d<;>cases t<;>simp[cI,eh,cj]
  .cases f<;>cases d<;>cases t<;>simp[cI,eh,cj,g,h]<;>omega
def ZU(id c:Int)(need:List Int)(x:aI):eh (bM id c need x).1+(bM id c need x).2.length=eh x:=by
 have⟨p,e,s,f,d,t,b,a⟩:=x;by_cases g:p∈need
 .by_cases h:c=1
  .subst h;cases f<;>cases b<;>cases a<;>simp[bM,eh,cj,g]<;>omega
  .by_cases i:c=2
   .subst i;cases b<;>cases a<;>simp[bM,eh,cj,g]
   .cases b<;>cases a<;>simp[bM,eh,cj,g,h,i]<;>omega
 .cases b<;>cases a<;>simp[bM,eh,cj,g]<;>omega
def EY{f:aI->aI×List cB}(h:∀x,eh (f x).1+(f x).2.length=eh x):∀l:List aI,bT eh (l.map fun x=>(f x).1)+(l.flatMap fun x=>(f x).2).length=bT eh l
 |[]=>rfl
 |x::r=>by
  have a:=h x
  have b:=EY h r
  simp only[afL,ait,bT,afu]
  omega
def Mv:∀l:List aI,bT eh (l.map fun x=>{x with cJ:=true})=bT eh l
 |[]=>rfl
 |x::r=>by simp only[afL,bT,Mv r];rfl
def Ge:∀l:List aI,bT eh l<=4*l.length
 |[]=>by simp[bT]
 |x::r=>by
  have c:=Ge r
  have g:eh x<=4:=by
   have⟨p,e,s,f,d,t,b,a⟩:=x
   cases f<;>cases t<;>cases b<;>cases a<;>simp[eh,cj]
  simp only[bT,ahP]
  omega
def aee(d:cP)(h:eA d=true):bT eh (fA d).1.af+(fA d).2.1.length=bT eh d.af:=by
 have a:=EY (Pu d.id d.phase) d.af;unfold fA;rw[if_neg (by simp[h])];simp only;split
 .simp only;rw[Mv];exact a
 .exact a
def yn(h:dE d=true):(cv d).1.ai.id=d.ai.id/\(cv d).1.ai.af.length=d.ai.af.length/\(cv d).1.need=d.need:=by have a:=Nc _ (qe h);have b:=PR _ (qe h);simp only[cv,qX];exact⟨a,by rw[ahL];exact b.1,trivial⟩
def Ci(h:dE d=true):bT eh (cv d).1.ai.af+(cv d).2.length=bT eh d.ai.af:=by have a:=aee _ (qe h);simp only[cv,qX,afu];have b:=EY (ZU (fA ⟨d.ai.id,eF d,d.ai.af⟩).1.id d.aQ d.need) (fA ⟨d.ai.id,eF d,d.ai.af⟩).1.af;simp only at a;omega
def Ax{id:Int}{f:aI->aI}:∀ {l:List aI} {a:Int},(∀x∈l,(f x).peer=x.peer/\∀a,cR id a x=true->cR id a (f x)=true)->dU id a l=true->dU id a (l.map f)=true
 |[],_,_,_=>rfl
 |x::r,a,h,b=>by
  simp only[dU,afL,aa2]at b|-
  have⟨c,d⟩:=h x (by simp)
  refine⟨d _ b.1,?_⟩
  rw[c]
  exact Ax (fun y e=>h y (by simp[e])) b.2
def DA(id c:Int)(x:aI):(cI id c x).1.peer=x.peer/\∀i g,cR i g x=true->cR i g (cI id c x).1=true:=by
 have⟨p,e,s,f,d,t,b,a⟩:=x;constructor
 .simp only[cI];split<;>split<;>rfl
 .intro i g h;cases f<;>cases d<;>cases t<;>by_cases j:c=1<;>by_cases k:c=2<;>simp_all[cI,cR]
def Dx(id a:Int)(need:List Int)(x:aI):(bM id a need x).1.peer=x.peer/\∀i b,cR i b x=true->cR i b (bM id a need x).1=true:=by refine⟨PQ id a need x,fun i b h=>?_⟩;simp only[bM];split<;>split<;>simpa[cR]using h
def adF(x:aI)(b:x.fork=true):∀i a,cR i a x=true->cR i a {x with cJ:=true}=true:=by intro i a h;simp_all[cR]
def Y7{d:cP}(h:eA d=true):eA (fA d).1=true:=by
 have a:=h;simp only[eA,aa2]at a;have⟨⟨⟨⟨b,f⟩,g⟩,c⟩,i⟩:=a;have e:dU d.id (-1) (d.af.map fun x=>(cI d.id d.phase x).1)=true:=Ax (fun x _=>⟨(DA _ _ x).1,(DA _ _ x).2 _⟩) i;unfold fA;rw[if_neg (by simp[h])];simp only;split
 .rename_i hc;have j:=hc.2;simp only[eA,aa2];refine⟨⟨⟨⟨b,by simp⟩,by simp⟩,by simpa using c⟩,Ax (fun x k=>⟨rfl,adF x (af8.1 j x k) _⟩) e⟩
 .simp only[eA,aa2];exact⟨⟨⟨⟨b,f⟩,g⟩,by simpa using c⟩,e⟩
def I7{f:aI->aI}(a:∀x,(f x).peer=x.peer)(l:List aI)(p:Int):cK (l.map f) p=cK l p:=by
 unfold cK;rw[List.any_map];congr 1
 funext x
 simp[Function.comp,a]
def ab1{d:cP}(h:eA d=true)(p:Int):cK (fA d).1.af p=cK d.af p:=by
 have a:=I7 (fun x=>(DA d.id d.phase x).1) d.af p;unfold fA;rw[if_neg (by simp[h])];simp only;split
 .exact (I7 (f:=fun x=>{x with cJ:=true}) (fun _=>rfl) _ p).trans a
 .exact a
def LM(h:dE d=true):dE (cv d).1=true:=by
 have a:=Y7 (qe h);have b:=ab1 (qe h);have c:=h;simp only[dE,aa2]at c;obtain⟨⟨⟨⟨⟨r,e⟩,f⟩,g⟩,i⟩,j⟩:=c;have⟨F,k⟩:=ak (fA ⟨d.ai.id,eF d,d.ai.af⟩);simp only[cv,qX,k]at a b|-;simp only[dE,aa2];refine⟨⟨⟨⟨⟨?_,?_⟩,?_⟩,g⟩,?_⟩,?_⟩
 .simp only[eA,aa2]at a|-;have⟨⟨⟨⟨l,m⟩,n⟩,o⟩,q⟩:=a;exact⟨⟨⟨⟨l,m⟩,n⟩,by simpa using o⟩,Ax (fun x _=>⟨(Dx _ _ _ x).1,(Dx _ _ _ x).2 _⟩) q⟩
 .split
  .simp
  .exact e
 .split
  .simp
  .exact f
 .split
  .simp
  .exact i
 .have:∀p,cK (F.1.af.map fun x=>(bM F.1.id d.aQ d.need x).1) p=cK d.ai.af p:=fun p=>(I7 (fun x=>(Dx _ _ _ x).1) _ p).trans (b p);simpa only[this]using j
def abA(id c:Int)(x:aI)(h:(cI id c x).2=[]):(cI id c x).1=x:=by
 have g:=Pu id c x;have⟨p,e,s,f,d,t,b,a⟩:=x;by_cases g:c=1
 .subst g;cases f<;>cases d<;>cases t<;>simp_all[cI]
 .by_cases i:c=2
  .subst i;cases f<;>cases d<;>cases t<;>simp_all[cI]
  .cases f<;>cases d<;>cases t<;>simp_all[cI]
def UG(id c:Int)(need:List Int)(x:aI)(h:(bM id c need x).2=[]):(bM id c need x).1=x:=by
 have⟨p,e,s,f,d,t,b,a⟩:=x;by_cases j:p∈need
 .by_cases g:c=1
  .subst g;cases f<;>cases b<;>cases a<;>simp_all[bM]
  .by_cases i:c=2
   .subst i;cases b<;>cases a<;>simp_all[bM]
   .cases b<;>cases a<;>simp_all[bM]
 .cases b<;>cases a<;>simp_all[bM]
def map_none{f:aI->aI×List cB}(a:∀x,(f x).2=[]->(f x).1=x):∀l:List aI,(l.flatMap fun x=>(f x).2)=[]->(l.map fun x=>(f x).1)=l
 |[],_=>rfl
 |x::r,h=>by
  simp only[ait,alg]at h
  simp only[afL,a x h.1,map_none a r h.2]
def Ey(d:Dr):((cv d).1.aQ=2/\d.aQ=1)\/(cv d).1.aQ=d.aQ:=by
 simp only[cv,qX];split
 .rename_i h;exact .inl ⟨rfl,h.1⟩
 .exact .inr rfl
def RD(h:dE d=true):((cv d).1.ai.phase=2/\eF d=1)\/((cv d).1.ai.phase=eF d/\((cv d).2=[]->(cv d).1.ai.af=d.ai.af)):=by
 have b:=qe h;by_cases hc:eF d=1/\((d.ai.af.map fun x=>(cI d.ai.id (eF d) x).1).all fun x=>x.fork)=true
 .left;refine⟨?_,hc.1⟩;simp only[cv,qX,fA];rw[if_neg (by simp[b])];simp only[if_pos hc]
 .right;have e:fA ⟨d.ai.id,eF d,d.ai.af⟩=(⟨d.ai.id,eF d,d.ai.af.map fun x=>(cI d.ai.id (eF d) x).1⟩,d.ai.af.flatMap fun x=>(cI d.ai.id (eF d) x).2,0):=by unfold fA;rw[if_neg (by simp[b])];simp only[if_neg hc]
  simp only[cv,qX,e,true_and];intro a;rw[alg]at a;rw[map_none (fun x=>UG _ _ _ x) _ a.2,map_none (fun x=>abA _ _ x) _ a.1]
def acW(h:dE d=true)(k:(cv d).1≠d):rU (cv d).1<rU d:=by
 have m:=Ci h;have hth:=Ey d;have i:=RD h;have⟨n,_,o⟩:=yn h;have hp:0<=d.ai.phase/\d.ai.phase<=2:=by simp only[dE,eA,aa2,afj,decide_eq_false_iff_not]at h;omega
 obtain⟨⟨⟨⟨A,p,u⟩,q,B⟩,l⟩,v⟩:∃x,cv d=x:=⟨_,rfl⟩;rw[v]at m hth i n o k|-;simp only at m hth i n o k|-
 have j:eF d=1/\d.aQ=1/\d.ai.phase=0\/eF d=0/\d.ai.phase=2/\d.aQ≠1\/eF d=d.ai.phase:=by
  unfold eF;split
  .rename_i g;exact .inl ⟨rfl,g⟩
  .split
   .rename_i g;exact .inr (.inl ⟨rfl,g.1,g.2.1⟩)
   .exact .inr (.inr rfl)
 have⟨⟨id,f,af⟩,r,need⟩:=d;simp only at m hth i n o k hp j;simp only[rU];have w:l=[]->u=af->p=f->q=r->False:=by rintro _ rfl rfl rfl;exact k (by rw[n,o])
 have y:l=[]\/0<l.length:=by cases l<;>simp
 have s:nQ q p<nQ r f\/(p=f/\q=r/\(l=[]->u=af)):=by
  have C:f=0\/f=1\/f=2:=by omega
  have⟨Q,z⟩:=ak (eF ⟨⟨id,f,af⟩,r,need⟩);rw[z]at i j;clear m w y v h k z;rcases hth with⟨rfl,rfl⟩|rfl
  .left;have:nQ 2 p<=2:=by unfold nQ;split<;>(try omega)<;>split<;>(try omega)<;>split<;>omega
   have:4<=nQ 1 f:=by unfold nQ;rw[if_pos rfl];omega
   omega
  .by_cases c1:q=1
   .subst c1;rcases i with⟨rfl,e⟩|⟨rfl,e⟩
    .left;rcases j with⟨a,c,b⟩|⟨a,c,b⟩|a
     .subst b;simp[nQ]
     .exact absurd rfl b
     .rw[<-a,e];simp[nQ]
    .rcases j with⟨a,c,b⟩|⟨a,c,b⟩|a
     .subst b;left;rw[a];simp[nQ]
     .exact absurd rfl b
     .right;exact⟨a,rfl,e⟩
   .rcases i with⟨rfl,e⟩|⟨rfl,e⟩
    .left;rcases j with⟨a,c,b⟩|⟨a,c,b⟩|a
     .exact absurd c c1
     .omega
     .rw[<-a,e];simp[nQ,c1]
    .rcases j with⟨a,c,b⟩|⟨a,c,b⟩|a
     .exact absurd c c1
     .left;rw[a,c];simp[nQ,c1]
     .right;exact⟨a,rfl,e⟩
 rcases s with s|⟨rfl,rfl,s⟩
 .omega
 .rcases y with t|t
  .exact (w t (s t) rfl rfl).elim
  .omega
end
def xP(d:Dr)(out:List cB):au×List Ob:=(.aM [.agg [I d.ai.id,I d.ai.phase,.sl 0 0 0 d.ai.af.length,I d.aQ,aG d.need],bd 1 0 0 out.length,aa 0],[ah 8 (d.ai.af.map ax),ah 5 (out.map dX)])
def afq{c:Dr}{out:List cB}{m a b:Nat}{G:List Ob}{y:Ob}(f:G[m]?=some (ah 8 (c.ai.af.map ax)))(d:G[a]?=some (.live b 5 (out.map dX)))(g:m≠0)(h:a≠0):
  dF false (G.set 0 y) (.aM [.agg [I c.ai.id,I c.ai.phase,.sl m 0 0 c.ai.af.length,I c.aQ,aG c.need],bd a b 0 out.length,aa 0])=some (xP c out):=by
 have i:(G.set 0 y)[m]?=some (ah 8 (c.ai.af.map ax)):=by rw[aay (ain g)];exact f
 have j:(G.set 0 y)[a]?=some (.live b 5 (out.map dX)):=by rw[aay (ain h)];exact d
 have t2:¬a=m:=fun e=>by subst e;rw[f]at d;simp at d
 simp[i,j,t2,xP]
structure adS(d:Dr)(out:List cB)(m:Nat)(ol:ab)(G:List Ob):Prop where
 h0:G[0]?=some (ah 5 [[I 0,I 0,ap,I 0,ap]])
 xn:lI G 2 d.ai.id d.ai.phase (.sl m 0 0 d.ai.af.length) d.aQ (aG d.need) ol out
 r:G[m]?=some (ah 8 (d.ai.af.map ax))
 mb:m≠2
 m0:m≠0
 o0:∀v lo n,ol≠ .sl 0 v lo n
def wH:∀l:List Int,ij [8] (l.map aC)=true
 |[]=>by simp
 |x::r=>by
  have:=wH r
  simp only[afL,ij,this,akL]
  simp
def Lc(n:Nat)(d:Dr)(out:List cB):p5 (n+1) d out=if(cv d).1=d then((cv d).1,out++(cv d).2)else p5 n (cv d).1 (out++(cv d).2):=rfl
def agY(d:Dr)(hm:d.ai.af.length<=100)(hn:d.need.length<=100000):aS tz ay 0 208 [.agg (cV d)]=some (if dE d=false then(.aM [.agg [I 0,I 0,.aj [],I 0,.aj []],.c ap,aa 150],[])else xP (kY d).1 (kY d).2.1):=by
 obtain⟨⟨v,ad⟩,f⟩:∃r,(if dE d=false then((.aM [.agg [I 0,I 0,.aj [],I 0,.aj []],.c ap,aa 150],[]):au×List Ob)else xP (kY d).1 (kY d).2.1)=r:=⟨_,rfl⟩;rw[f];refine be func208 rfl ?_;have i:=Ab d (by unfold maxLen;omega) (by unfold maxLen;omega);have k:=zo d hm hn;simp only[cV,aG]at i k;cases u:dE d with
 |false=>simp[u]at i f;obtain⟨rfl,rfl⟩:=f;simp[f208,cV,i]
 |true=>
  have P:bT eh d.ai.af<=400:=by have:=Ge d.ai.af;omega
  simp[u]at i;simp only[u,Bool.true_eq_false,if_false,kY]at f;simp[-dF,f208,cV,i,k];refine im (fun _:Nat×Dr×List cB=>[(6,aw 2),(2,aw 0)]) (fun p G=>dE p.2.1=true/\p.2.1.ai.af.length<=100/\p.2.1.need.length<=100000/\bT eh p.2.1.ai.af+p.2.2.length<=400/\rU p.2.1<p.1/\p5 p.1 p.2.1 p.2.2=p5 (rU d+1) d []/\∃m w,adS p.2.1 p.2.2 m w G) (fun p=>p.1) ?_ (rU d+1,d,[]) (by simp) ⟨u,hm,hn,by simpa using P,by simp,rfl,1,ap,⟨rfl,⟨rfl,.inl ⟨rfl,rfl⟩⟩,rfl,by simp,by simp,by simp⟩⟩ fun _=>rfl;rintro⟨n,c,out⟩ e G ⟨x,C,_⟩ ⟨g,D,z,Q,R,l,m,w,a⟩;simp only at x C g D z Q R l a;have b:=a.xn.hb;have S:=a.r;have k:=zo c D z;simp only[cV,aG]at k b;simp[-dF,x,b,S,k,pD,wH];have lb:=bf b
  have T:RB 2 m 0 c.ai.af.length c.ai.id c.ai.phase c.aQ (aG c.need) w (G++[ah 8 (c.ai.af.map ax),ah 5 [[I c.ai.id,I c.ai.phase,.sl G.length 0 0 c.ai.af.length,I c.aQ,aG c.need]]]) (c.ai.af.map ax) out (G++[ah 8 (c.ai.af.map ax),ah 5 [[I c.ai.id,I c.ai.phase,.sl G.length 0 0 c.ai.af.length,I c.aQ,aG c.need]]]) w:=
   ⟨⟨aV a.xn.hb,a.xn.ho.snoc _⟩,aV a.r,Fr.refl _ _ _,a.mb,fun h=>h⟩
  have⟨K,J,o,L,d1,q,U,V,E,W⟩:=MS T g D z (by omega);change lI K 2 c.ai.id (cv c).1.ai.phase (.sl o 0 0 (cv c).1.ai.af.length) (cv c).1.aQ (aG c.need) J (out++(cv c).2)at d1;change K[o]?=some (ah 8 ((cv c).1.ai.af.map ax))at q;simp only[aG]at L;rw[L];have ae:G.length+2<=o:=by simpa using U
  have X:=a.xn.ho.new (m:=G.length) (adt _);have Y:=a.xn.ho.new (m:=G.length+1) (by omega);have Z:=E.2 (G.length) (ah 8 (c.ai.af.map ax)) (by simp) (by simp;omega) X;have x1:=E.2 (G.length+1) (ah 5 [[I c.ai.id,I c.ai.phase,.sl G.length 0 0 c.ai.af.length,I c.aQ,aG c.need]]) (by simp) (by simp;omega) Y;have A:=E.2 0 _ (aV a.h0) (by simp) a.o0;have s:=ME c (cv c).1 (by unfold maxLen;omega) (by unfold maxLen;omega);have⟨F,k2,B⟩:=yn g;have b:=d1.hb;have H:=x1.1;have M:=Z.1;simp only[aG]at b H;simp only[cV,aG,F,B]at s;by_cases t:c=(cv c).1
  .have ab:decide (c=(cv c).1)=true:=by simpa using t
   rw[ab]at s;have N:=A.1;have s0:∀y,(K.set 0 y)[0]?=some y:=fun y=>ba N;have dh:=d1.ho;rcases dh with⟨_,rfl⟩|⟨ha,va,u1,rfl,u2⟩
   .exact absurd rfl W
   simp[-dF,x,C,b,H,M,N,s0,q,s];obtain⟨j,rfl⟩:∃j,n=j+1:=⟨n-1,by omega⟩;rw[Lc,if_pos t.symm]at l;rw[<-l]at f;have O:=afq (c:=(cv c).1) (out:=out++(cv c).2) (y:=ah 5 [[I c.ai.id,I (cv c).1.ai.phase,.sl o 0 0 (cv c).1.ai.af.length,I (cv c).1.aQ,aG c.need]]) q u2 (by omega) (fun e=>A.2 va 0 _ (by rw[e]));rw[F,B,f,afu]at O;exact O
  .simp only[t,decide_false]at s;simp[-dF,x,C,b,H,M,q,s];obtain⟨j,rfl⟩:∃j,n=j+1:=⟨n-1,by omega⟩;have ag:=Ci g;have ak:=acW g (ain t);rw[Lc,if_neg (ain t)]at l;exact⟨j,by omega,(cv c).1,LM g,by omega,by rw[B];exact z,out++(cv c).2,by simp;omega,by omega,l,o,J,⟨A.1,by rw[F,B];exact d1,q,V,by omega,A.2⟩⟩
section
variable{α:Type}{h:Nat}
def Q3(x:aI)(p:Int):aS tz ay 0 279 [.agg (ax x),.c (.aK [[I p]] 0 0)]=some (aR (decide (x.peer=p)),[]):=by refine be func279 rfl ?_;simp[f279,ax]
def eP(p:α->Bool)(l:List α)(k:Nat):List α:=(l.take k).filter (fun x=>!p x)++l.drop ((l.take k).filter (fun x=>!p x)).length
def KO(p:α->Bool)(l:List α)(k:Nat):(eP p l k).length=l.length:=by
 have a:=ah2 (fun x=>!p x) (l.take k);have b:(l.take k).length<=l.length:=by simp;omega
 simp only[eP,afu,ajV];omega
def Rv(p:α->Bool)(l:List α)(k:Nat)(a:k<l.length):(eP p l k)[k]?=some l[k]:=by
 have b:=ah2 (fun x=>!p x) (l.take k);have c:(l.take k).length=k:=by simp;omega
 unfold eP;rw[ad8 (by omega),aiX];rw[show((l.take k).filter fun x=>!p x).length+(k-((l.take k).filter fun x=>!p x).length)=k by omega];exact aae a
def MD(p:α->Bool)(l:List α)(k:Nat)(a:k<l.length)(hp:p l[k]=false):(eP p l k).set ((l.take k).filter fun x=>!p x).length l[k]=eP p l (k+1):=by
 have c:=ah2 (fun x=>!p x) (l.take k);have d:(l.take k).length=k:=by simp;omega
 have b:(l.take (k+1)).filter (fun x=>!p x)=(l.take k).filter (fun x=>!p x)++[l[k]]:=by rw[jK a,ajh];simp[hp]
 unfold eP;rw[b,ai9 (h:=adt _),ajx,afv (by omega),ajL,aio];simp
def yX(p:α->Bool)(l:List α)(k:Nat)(a:k<l.length)(hp:p l[k]=true):eP p l (k+1)=eP p l k:=by
 have b:(l.take (k+1)).filter (fun x=>!p x)=(l.take k).filter (fun x=>!p x):=by rw[jK a,ajh];simp[hp]
 unfold eP;rw[b]
def fJ(p:α->Bool)(l:List α)(k:Nat):Nat:=((l.take k).filter fun x=>!p x).length
def Qd(p:α->Bool)(l:List α)(k:Nat):fJ p l k<=k:=by
 have a:=ah2 (fun x=>!p x) (l.take k);have b:(l.take k).length<=k:=by simp;omega
 unfold fJ;omega
def vZ(p:α->Bool)(l:List α)(k:Nat)(a:k<l.length):fJ p l (k+1)=fJ p l k+if p l[k]then 0 else 1:=by unfold fJ;rw[jK a,ajh,afu];cases h:p l[k]<;>simp[h]
def Ek{α:Type}{p:α->Bool}{s:α}:∀ {l:List α} (k:Nat),l.find? p=some s->∃j:Nat,dw p k l=((k+j:Nat):Int)/\(∃e:j<l.length,p l[j]=true)/\(l.take j).filter (fun x=>!p x)=l.take j
 |[],k,h=>by simp at h
 |x::r,k,h=>by
  rw[akc]at h
  cases a:p x with
  |true=>exact⟨0,by simp[dw,a],⟨by simp,by simpa using a⟩,by simp⟩
  |false=>
   rw[a]at h
   have⟨j,b,⟨f,c⟩,d⟩:=Ek (k+1) h
   refine⟨j+1,?_,⟨by simp;omega,by simpa using c⟩,by simp[a,d]⟩
   simp only[dw,a]
   rw[show k+(j+1)=k+1+j by omega]
   exact b
def mB(h:Nat)(H G:List Ob):Prop:=H.length<=G.length/\∀(m:Nat) (o:Ob),H[m]?=some o->m≠h->G[m]?=some o
def mB.refl(h:Nat)(H:List Ob):mB h H H:=⟨adt _,fun _ _ h _=>h⟩
def mB.snoc{H G:List Ob}(b:mB h H G)(x:List Ob):mB h H (G++x):=⟨by have:=b.1;simp;omega,fun m o a c=>aV (b.2 m o a c)⟩
def mB.set{H G:List Ob}(b:mB h H G)(y:Ob):mB h H (G.set h y):=⟨by have:=b.1;simpa using this,fun m o c a=>by rw[aay (ain a)];exact b.2 m o c a⟩
structure ahW(p:aI->Bool)(l:List aI)(h ver:Nat)(H:List Ob)(k:Nat)(G:List Ob):Prop where
 r:G[h]?=some (.live ver 8 ((eP p l k).map ax))
 b:mB h H G
 k:k<=l.length
end
def ye(H:List Ob)(c:Nat)(l:List Int):Prop:= ∃a,H[c]?=some (ah 1 [[a]])/\((l=[]/\a=ap)\/∃b d,l≠ []/\b≠c/\a= .sl b d 0 l.length/\H[b]?=some (.live d 1 (l.map aC)))
def QM(s:bY)(a:Int)(c:Nat)(l:List Int)(H:List Ob)(d:ye H c l)(o:l.length<=200000)(hn:s.need.length<=100000):
  ∃j,bB tz (ev tz) 202 [.agg (aN s),.c (.aK [[I a]] 0 0),aw c] H=some (aR (cg a s),j)/\ye j c (if cg a s=true then l++[s.id]else l)/\fx [1] [c] H j:=by
 have⟨k,hc,d⟩:=d
 have p:=bf hc
 refine gv func202 rfl ?_
 have g:=qv s.need a (by unfold maxLen;omega)
 simp only[aG]at g
 by_cases b:s.state=0
 .by_cases e:a∈s.need
  .have f:cg a s=true:=by simp[cg,b,e]
   rw[f]
   rcases d with⟨rfl,rfl⟩|⟨m,n,q,h,rfl,i⟩
   .simp[f202,aN,g,b,e,hc,aV hc]
    refine⟨⟨_,ba (aV hc),.inr ⟨H.length+1,0,by simp,by omega,rfl,?_⟩⟩,((fx.refl _ _ _).snoc _).set (by simp) _⟩
    rw[aay (by omega),jd]
    rfl
   .have r:=bf i
    simp[f202,aN,g,b,e,hc,h,aV hc,aV i,show l.length+1<=maxLen/\(l.length+1)*8<=140737488355328 from⟨by unfold maxLen;omega,by omega⟩]
    refine⟨⟨_,ba (x:=ah 1 [[.sl m n 0 l.length]]) (by rw[aay h];exact aV hc),.inr ⟨m,n+1,by simp,h,by simp,?_⟩⟩,(((fx.refl _ _ _).snoc _).Da (aV i) (by simp) _).set (by simp) _⟩
    rw[aay (ain h),ba (aV i)]
    simp
  .have f:cg a s=false:=by simp[cg,b,e]
   rw[f]
   simp[f202,aN,g,b,e]
   exact⟨⟨k,hc,d⟩,fx.refl _ _ _⟩
 .have f:cg a s=false:=by simp[cg,b]
  rw[f]
  simp[f202,aN,b]
  exact⟨⟨k,hc,d⟩,fx.refl _ _ _⟩
def pu(a:Int)(l:List bY)(k:Nat):List Int:=((l.take k).filter (cg a)).map (·.id)
def PM(a:Int)(l:List bY)(k:Nat)(b:k<l.length):pu a l (k+1)=if cg a l[k]=true then pu a l k++[l[k].id]else pu a l k:=by unfold pu;rw[jK b,ajh,agA];cases h:cg a l[k]<;>simp[h]
def LZ(a:Int)(l:List bY)(k:Nat):(pu a l k).length<=l.length:=by
 unfold pu;have b:=ah2 (cg a) (l.take k);have c:(l.take k).length<=l.length:=by simp;omega
 simp only[ahL];omega
def fx.mono{Z a b:List Nat}{H c:List Ob}(h:fx Z b H c)(d:∀z∈Z,z∈a):fx a b H c:=⟨h.1,fun m v z rows e f g=>h.2 m v z rows e f (fun q=>g (d z q))⟩
structure oe(peer:Int)(l:List bY)(h ver c:Nat)(H:List Ob)(rows:List (List ab))(k:Nat)(G:List Ob):Prop where
 r:G[h]?=some (.live ver 4 rows)
 i:ye G c (pu peer l k)
 b:fx [1,4] [c] H G
 k:k<=l.length
def oe.set{f:Int}{l:List bY}{h a c:Nat}{H G:List Ob}{rows:List (List ab)}{k:Nat}(g:oe f l h a c H rows k G)(hc:h≠c)(j:List (List ab)):oe f l h a c H j k (G.set h (.live a 4 j)):=by
 refine⟨ba g.r,?_,g.b.Da g.r (by simp) _,g.k⟩;have⟨n,o,d⟩:=g.i;refine⟨n,by rw[aay hc];exact o,?_⟩;rcases d with d|⟨p,q,s,t,u,m⟩
 .exact .inl d
 .refine .inr ⟨p,q,s,t,u,?_⟩;rw[aay (fun e=>by subst e;have:=g.r;rw[m]at this;simp at this)];exact m
def oe.call{a:Int}{l:List bY}{h f c:Nat}{H G:List Ob}{rows:List (List ab)}{k:Nat}(g:oe a l h f c H rows k G)(e:k<l.length)(hc:h≠c)(hm:l.length<=100000)(hn:∀s∈l,s.need.length<=100000):
  ∃d,bB tz (ev tz) 202 [.agg (aN l[k]),.c (.aK [[I a]] 0 0),aw c] G=some (aR (cg a l[k]),d)/\oe a l h f c H rows (k+1) d:=by
 have:=LZ a l k
 have⟨d,m,n,j⟩:=QM l[k] a c _ G g.i (by omega) (hn _ (air e))
 refine⟨d,m,j.2 _ _ _ _ g.r (by simp[hc]) (by simp),by rw[PM _ _ _ e];exact n,g.b.trans (j.mono (by simp)),e⟩
def Lr{b:Type}{p:b->Bool}:∀ {l:List b} (k:Nat),l.find? p=none->jj (fun _=>p) k l=k+l.length
 |[],k,_=>rfl
 |x::r,k,h=>by
  rw[akc]at h
  cases a:p x with
  |true=>rw[a]at h;cases h
  |false=>
   rw[a]at h
   simp only[jj,a,Lr (k+1) h,ahP]
   simp;omega
def Qr{a:Type}{p:a->Bool}{s:a}:∀ {l:List a} (k:Nat),l.find? p=some s->((jj (fun _=>p) k l:Nat):Int)=dw p k l+1
 |[],k,h=>by simp at h
 |x::r,k,h=>by
  rw[akc]at h
  cases b:p x with
  |true=>simp[jj,dw,b]
  |false=>
   rw[b]at h
   simp only[jj,dw,b]
   exact Qr (k+1) h
def aeM{l:List bY}{peer:Int}{h ver c:Nat}{H:List Ob}(hm:l.length<=100000)(hn:∀s∈l,s.need.length<=100000)(U:H[h]?=some (.live ver 4 (l.map aN)))(V:ye H c [])(hc:h≠c):
  ∃m rows,bB tz (ev tz) 201 [bd h ver 0 l.length,.c (.bG 202 [.aK [[I peer]] 0 0,.ptr c 0 0 0])] H=some (bd h ver 0 (l.filter fun x=>!cg peer x).length,m)/\rows.length=l.length/\rows.take (l.filter fun x=>!cg peer x).length=(l.filter fun x=>!cg peer x).map aN/\oe peer l h ver c H rows l.length m:=by
 have W:=cG (C:=tz) (f:=201) (args:=[bd h ver 0 l.length,.c (.bG 202 [.aK [[I peer]] 0 0,.ptr c 0 0 0])]) (H:=H) (fun r m=>r=bd h ver 0 (l.filter fun x=>!cg peer x).length/\∃rows,rows.length=l.length/\rows.take (l.filter fun x=>!cg peer x).length=(l.filter fun x=>!cg peer x).map aN/\oe peer l h ver c H rows l.length m) func201 rfl ?_
 .obtain ⟨r,m,z,rfl,rows,n⟩:=W
  exact⟨m,rows,z,n⟩
 have⟨G,q,A⟩:=SZ (g:=202) (caps:=[.aK [[I peer]] 0 0,.ptr c 0 0 0]) l (by unfold maxLen;omega) h ver 0 (fun k G=>oe peer l h ver c H (l.map aN) (min k l.length) G) (fun _=>cg peer) (fun k G g=>⟨_,g.r,fun j B=>by simp[B]⟩) (fun k a G g=>by
  rw[ajW (alk a)]at g
  have⟨X,z,n⟩:=g.call a hc hm hn
  simp only[aN,aG]at z
  refine⟨X,?_,by rw[ajW a];exact n⟩
  simp[aN,z]) H (by
  simp only[Nat.zero_min]
  exact⟨U,by simpa[pu]using V,fx.refl _ _ _,by omega⟩)
 rw[BD]at q
 cases t:l.find? (cg peer)with
 |none=>
  rw[qG 0 t]at q
  rw[Lr 0 t,aiQ,Nat.min_self]at A
  have Y:l.filter (fun x=>!cg peer x)=l:=by
   rw[ajn]
   intro x Z
   have:=alP.1 t x Z
   simpa using this
  rw[Y]
  simp[f201,q]
  exact⟨_,by simp,by simp,A⟩
 |some x=>
  have hS:=Qr 0 t
  have⟨j,n,⟨B,N⟩,O⟩:=Ek 0 t
  rw[aiQ]at n
  rw[n]at q hS
  have ab:min (jj (fun _=>cg peer) 0 l) l.length=j+1:=by omega
  rw[ab]at A
  have ad:ads.wrap ((j:Int)+1)=((j+1:Nat):Int):=cr (by omega)
  have n0:fJ (cg peer) l (j+1)=j:=by
   rw[vZ _ l j B,if_pos N]
   unfold fJ
   rw[O];simp;omega
  have d0:eP (cg peer) l (j+1)=l:=by
   rw[yX _ l j B N]
   unfold eP
   rw[O,aiV,ajW (by omega),ajE]
  simp[f201,q,ad]
  refine ia (fun k:Nat=>[(5,aa (fJ (cg peer) l k)),(6,aa k),(0,bd h ver 0 l.length),(1,.c (.bG 202 [.aK [[I peer]] 0 0,.ptr c 0 0 0]))]) (fun k G=>oe peer l h ver c H ((eP (cg peer) l k).map aN) k G) (fun k=>l.length-k) ?_ (j+1) (by simp[n0]) (by rw[d0];exact A) fun _=>rfl
  rintro k ag G⟨D,u,v,E,_⟩d
  have o:=d.r
  have J:=KO (cg peer) l k
  have nk:=Qd (cg peer) l k
  by_cases a:k<l.length
  .have P:ads.wrap ((k:Int)+1)=((k+1:Nat):Int):=cr (by omega)
   have ae:ads.wrap ((fJ (cg peer) l k:Int)+1)=((fJ (cg peer) l k+1:Nat):Int):=cr (by omega)
   have t1:=Rv (cg peer) l k a
   have⟨t2,t3⟩:=aa3.1 t1
   have t4:fJ (cg peer) l k< (eP (cg peer) l k).length:=by omega
   have t5:fJ (cg peer) l k<l.length:=by omega
   have K:oe peer l h ver c H ((eP (cg peer) l k).map aN) k (G++[ah 4 [aN l[k]]]):=⟨aV o,by
    have⟨Q,L,F⟩:=d.i
    refine⟨Q,aV L,?_⟩
    rcases F with F|⟨ha,va,q3,q4,q5,q6⟩
    .exact .inl F
    .exact .inr ⟨ha,va,q3,q4,q5,aV q6⟩,d.b.snoc _,d.k⟩
   have lg:=LZ peer l k
   have⟨af,e,M,w⟩:=QM l[k] peer c _ _ K.i (by omega) (hn _ (air a))
   have ai:c<G.length:=by
    have⟨Q,L,F⟩:=d.i
    exact bf L
   have R:=w.2 G.length 0 4 [aN l[k]] (by simp) (by simp;omega) (by simp)
   have S:=w.2 h ver 4 _ K.r (by simp[hc]) (by simp)
   have T:oe peer l h ver c H ((eP (cg peer) l k).map aN) (k+1) af:=⟨S,by rw[PM _ _ _ a];exact M,K.b.trans (w.mono (by simp)),a⟩
   have gh:∀x,(G++x)[h]?=_:=fun x=>aV o
   simp only[aN,aG]at e R
   cases p:cg peer l[k]with
   |true=>
    rw[p]at e
    simp[-getElem?_pos,-aae,underlying65,u,v,E,a,o,t1,t2,aN]
    rw[e]
    simp[D,u,v,E,P]
    exact⟨k+1,by omega,⟨by rw[vZ _ l k a,p];simp,by omega⟩,by rw[yX _ l k a p];exact T⟩
   |false=>
    rw[p]at e
    obtain⟨y,hy⟩:∃y,(eP (cg peer) l k)[fJ (cg peer) l k]?=some y:=⟨_,aae t4⟩
    simp[-getElem?_pos,-aae,underlying65,u,v,E,a,o,t1,t2,aN]
    rw[e]
    simp[D,u,v,E,P,ae,S,R,t5,J,hy,aN]
    refine⟨k+1,by omega,⟨by rw[vZ _ l k a,p];simp,by omega⟩,?_⟩
    rw[<-MD _ l k a p,aix]
    exact T.set hc _
  .obtain rfl:k=l.length:=by have:=d.k;omega
   have e:fJ (cg peer) l l.length=(l.filter fun x=>!cg peer x).length:=by simp[fJ]
   have M:eP (cg peer) l l.length=l.filter (fun x=>!cg peer x)++l.drop (l.filter fun x=>!cg peer x).length:=by simp[eP]
   have w:=ah2 (fun x=>!cg peer x) l
   simp only[e]at D
   have gs:∀y,(G.set h y)[h]?=some y:=fun y=>ba o
   simp[underlying65,D,u,v,o,J,w,gs,rJ,dt]
   refine⟨_,?_,?_,d.set hc _⟩
   .simp[J];omega
   .rw[M,agA]
    rw[ai2 (by simp)]
    exact ai2 (by simp)
def Y5(x:Int):aS tz ay 0 250 [aa x]=some (aR (decide (x<0)),[]):=by refine be func250 rfl ?_;simp[f250]
def N2(l:List Int)(hm:l.length<=maxLen):aS tz ay 0 175 [.c (aG l)]=some (aR (nC l),[]):=by
 refine be func175 rfl ?_;have h:=ww (g:=250) (caps:=[]) l hm (fun x=>decide (x<0)) (by rw[(show tz.md 250=0 from rfl)];decide) rfl (bi l) (fun x _=>by simp[Y5]);by_cases a:64<l.length
 .have:(l.length:Int)>64:=by omega
  simp[f175,underlying30,a,this,nC]
 .have:¬(l.length:Int)>64:=by omega
  simp[f175,underlying30,a,this,nC,h]
def GH(l:List bY):Prop:= ∀s∈l,s.need.length<=maxLen
def wi(b:ci)(hm:b.aA.length<=maxLen)(hn:GH b.aA):aS tz ay 0 106 [.agg (bQ b)]=some (aa (if cM b then 0 else 170),[]):=by
 refine be func106 rfl ?_;by_cases q:b.last<0
 .simp[f106,bQ,q,cM]
 by_cases u:8<b.aA.length
 .have:(b.aA.length:Int)>8:=by omega
  simp[f106,underlying65,bQ,q,u,this,cM]
 have v:¬(b.aA.length:Int)>8:=by omega
 simp[f106,underlying65,bQ,q,u,v,cM];refine ia (fun p:Nat×Int=>[(18,aa b.aA.length),(19,aa p.1),(17,bh (b.aA.map aN)),(3,aa p.2),(1,.c (.aK [bQ b] 0 0))]) (fun p H=>p.1<=b.aA.length/\dR b.last 0 true b.aA=dR b.last p.2 (decide (p.1=0)) (b.aA.drop p.1)) (fun p=>b.aA.length-p.1) ?_ (0,0) (by simp[bQ]) (by simp) fun _=>rfl;rintro⟨k,o⟩ e H ⟨g,f,h,i,l,_⟩ ⟨w,a⟩;simp only at g f h i l w a;by_cases d:k<b.aA.length
 .have x:b.aA.drop k=b.aA[k]::b.aA.drop (k+1):=afv d;have r:ads.wrap ((k:Int)+1)=((k+1:Nat):Int):=cr (by unfold maxLen at hm;omega);rw[x]at a;have t:b.aA[k].need.length<=maxLen:=hn _ (air d);have⟨s,j⟩:=ak b.aA[k];rw[j]at a t;simp only[dR]at a;have m:=N2 s.need t;have n:=E4 s.need t;simp only[aG]at m n;have y:((k:Int)=0)=(k=0):=by simp
  by_cases d1:s.state=1
  .by_cases d2:k=0
   .subst d2;simp at d r f a;by_cases c1:s.id<=o
    .simp[g,f,h,i,d,j,aN,bQ,d1,c1];simp[a,dx,d1,c1]
    by_cases c2:s.id>b.last
    .simp[g,f,h,i,l,d,j,aN,bQ,d1,c1,c2];simp[a,dx,d1,c1,c2]
    cases c3:nC s.need
    case true=>simp[g,f,h,i,l,d,j,aN,bQ,m,d1,c1,c2,c3];simp[a,dx,d1,c1,c2,c3]
    cases c4:ei s.need
    case false=>simp[g,f,h,i,l,d,j,aN,bQ,m,n,d1,c1,c2,c3,c4];simp[a,dx,d1,c1,c2,c3,c4]
    by_cases c5:s.cH<0
    .simp[g,f,h,i,l,d,j,aN,bQ,m,n,d1,c1,c2,c3,c4,c5];simp[a,dx,d1,c1,c2,c3,c4,c5]
    simp[g,f,h,i,l,d,j,aN,bQ,r,m,n,d1,c1,c2,c3,c4,c5];exact⟨1,by omega,s.id,by simp,by omega,by simpa[dx,d1,c1,c2,c3,c4,c5]using a⟩
   .have d3:¬s.state=0:=by omega
    simp only[d2,decide_false]at a;by_cases c1:s.id<=o
    .simp[g,f,h,i,d,j,aN,bQ,d1,d2,c1];simp[a,dx,d1,c1]
    by_cases c2:s.id>b.last
    .simp[g,f,h,i,l,d,j,aN,bQ,d1,d2,c1,c2];simp[a,dx,d1,c1,c2]
    cases c3:nC s.need
    case true=>simp[g,f,h,i,l,d,j,aN,bQ,m,d1,d2,c1,c2,c3];simp[a,dx,d1,c1,c2,c3]
    cases c4:ei s.need
    case false=>simp[g,f,h,i,l,d,j,aN,bQ,m,n,d1,d2,c1,c2,c3,c4];simp[a,dx,d1,c1,c2,c3,c4]
    by_cases c5:s.cH<0
    .simp[g,f,h,i,l,d,j,aN,bQ,m,n,d1,d2,c1,c2,c3,c4,c5];simp[a,dx,d1,c1,c2,c3,c4,c5]
    simp[g,f,h,i,l,d,j,aN,bQ,m,n,d1,d2,c1,c2,c3,c4,c5];simp[a,dx,d1,c1,c2,c3,c4,c5]
  .by_cases d3:s.state=0
   .by_cases d4:s.cH=0
    .have d5:¬s.cH<0:=by omega
     by_cases c1:s.id<=o
     .simp[g,f,h,i,d,j,aN,bQ,d3,d4,c1];simp[a,dx,d3,d4,c1]
     by_cases c2:s.id>b.last
     .simp[g,f,h,i,l,d,j,aN,bQ,d3,d4,c1,c2];simp[a,dx,d3,d4,c1,c2]
     cases c3:nC s.need
     case true=>simp[g,f,h,i,l,d,j,aN,bQ,m,d3,d4,c1,c2,c3];simp[a,dx,d3,d4,c1,c2,c3]
     cases c4:ei s.need
     case false=>simp[g,f,h,i,l,d,j,aN,bQ,m,n,d3,d4,c1,c2,c3,c4];simp[a,dx,d3,d4,c1,c2,c3,c4]
     simp[g,f,h,i,l,d,j,aN,bQ,r,m,n,d3,d4,c1,c2,c3,c4];exact⟨k+1,by omega,s.id,by simp,by omega,by simpa[dx,d1,d3,d4,c1,c2,c3,c4]using a⟩
    .by_cases c1:s.id<=o
     .simp[g,f,h,i,d,j,aN,bQ,d3,c1];simp[a,dx,d3,d4,c1]
     by_cases c2:s.id>b.last
     .simp[g,f,h,i,l,d,j,aN,bQ,d3,c1,c2];simp[a,dx,d3,d4,c1,c2]
     cases c3:nC s.need
     case true=>simp[g,f,h,i,l,d,j,aN,bQ,m,d3,c1,c2,c3];simp[a,dx,d3,d4,c1,c2,c3]
     cases c4:ei s.need
     case false=>simp[g,f,h,i,l,d,j,aN,bQ,m,n,d3,c1,c2,c3,c4];simp[a,dx,d3,d4,c1,c2,c3,c4]
     by_cases c5:s.cH<0
     .simp[g,f,h,i,l,d,j,aN,bQ,m,n,d3,c1,c2,c3,c4,c5];simp[a,dx,d3,d4,c1,c2,c3,c4,c5]
     simp[g,f,h,i,l,d,j,aN,bQ,m,n,d3,d4,c1,c2,c3,c4,c5];simp[a,dx,d3,d4,c1,c2,c3,c4,c5]
   .by_cases c1:s.id<=o
    .simp[g,f,h,i,d,j,aN,bQ,d1,c1];simp[a,dx,d1,d3,c1]
    by_cases c2:s.id>b.last
    .simp[g,f,h,i,l,d,j,aN,bQ,d1,c1,c2];simp[a,dx,d1,d3,c1,c2]
    cases c3:nC s.need
    case true=>simp[g,f,h,i,l,d,j,aN,bQ,m,d1,c1,c2,c3];simp[a,dx,d1,d3,c1,c2,c3]
    cases c4:ei s.need
    case false=>simp[g,f,h,i,l,d,j,aN,bQ,m,n,d1,c1,c2,c3,c4];simp[a,dx,d1,d3,c1,c2,c3,c4]
    by_cases c5:s.cH<0
    .simp[g,f,h,i,l,d,j,aN,bQ,m,n,d1,c1,c2,c3,c4,c5];simp[a,dx,d1,d3,c1,c2,c3,c4,c5]
    simp[g,f,h,i,l,d,j,aN,bQ,m,n,d1,d3,c1,c2,c3,c4,c5];simp[a,dx,d1,d3,c1,c2,c3,c4,c5]
 .simp[g,f,d];rw[a,aip (by omega)];simp[dR]
def agc(s:bY)(id:Int):aS tz ay 0 312 [.agg (aN s),.c (.aK [[I id]] 0 0)]=some (aR (decide (s.id=id)),[]):=by refine be func312 rfl ?_;simp[f312,aN]
def Q7(b:ci)(id:Int)(hm:b.aA.length<=maxLen):aS tz ay 0 261 [.agg (bQ b),aa id]=some (aa (dw (fun s=>decide (s.id=id)) 0 b.aA),[]):=by
 refine be func261 rfl ?_;have h:=agX (g:=312) (caps:=[.aK [[I id]] 0 0]) b.aA hm (fun s=>decide (s.id=id)) (fun s _=>by have:=agc s id;simp[aN]at this;simp[aN,this])
 simp[f261,bQ,h]
def SP(x y:bY)(e:x.need.length<=maxLen):aS tz ay 0 271 [.agg (aN x),.agg (aN y)]=some (aR (decide (x=y)),[]):=by
 refine be func271 rfl ?_;have h:=yG x.need y.need e;have⟨i,n,s,a⟩:=x;have⟨f,k,g,j⟩:=y;simp only at h;by_cases b:i=f
 case neg=>simp[f271,aN,b]
 by_cases c:s=g
 case neg=>simp[f271,aN,b,c]
 by_cases d:a=j
 case neg=>simp[f271,aN,b,c,d]
 simp[f271,aN,h,b,c,d]
def iN(b:ci):Prop:=b.aA.length<=100000/\∀s∈b.aA,s.need.length<=100000
def iN.hm{b:ci}(h:iN b):b.aA.length<=maxLen:=by have:=h.1;unfold maxLen;omega
def iN.hn{b:ci}(h:iN b):GH b.aA:=fun s a=>by have:=h.2 s a;unfold maxLen;omega
def xJ(b:ci)(d:iN b):aS tz ay 0 189 [.agg (bQ b)]=some (.agg [I b.last,.sl 0 0 0 b.aA.length],[ah 4 (b.aA.map aN)]):=by
 refine be func189 rfl ?_;have j:=QO (a:= .aj (b.aA.map aN)) (l:=b.aA) rfl (by have:=d.1;omega);simp[f189,underlying65,bQ,j];refine ia (fun k:Nat=>[(10,aa b.aA.length),(11,aa k),(1,aw 0),(2,aw 1)]) (fun k H=>k<=b.aA.length/\H=[ah 2 [[I b.last,.sl 2 0 0 b.aA.length]],ah 2 [[I 0,ap]],ah 4 (b.aA.map aN)]) (fun k=>b.aA.length-k) ?_ 0 (by simp) (by simp) fun _=>rfl;rintro k e H ⟨f,g,h,i,_⟩ ⟨q,m⟩;subst m;by_cases c:k<b.aA.length
 .have n:ads.wrap ((k:Int)+1)=((k+1:Nat):Int):=cr (by have:=d.hm;unfold maxLen at this;omega);have o:=vp (a:= .aj (b.aA[k].need.map aC)) (l:=b.aA[k].need) rfl (by have:=d.2 _ (air c);omega);have p:(b.aA.map aN).set k [I b.aA[k].id,.aj (b.aA[k].need.map aC),I b.aA[k].state,I b.aA[k].cH]=b.aA.map aN:=jb (by simpa using c) (by simp[aN]);simp[f,g,h,i,c,n,o,aN,p];exact⟨k+1,by omega,by simp,by omega⟩
 .simp[f,g,h,i,c]
def aeg(l m:List bY)(hm:l.length<=maxLen)(hn:GH l):aS tz ay 0 270 [bh (l.map aN),bh (m.map aN),.c (.bG 271 [])]=some (aR (decide (l=m)),[]):=by
 refine be func270 rfl ?_;by_cases o:l.length=m.length
 case neg=>
  have:decide (l=m)=false:=by simp;intro h;exact o (by rw[h])
  have s:((l.length:Int)=m.length)=False:=by simp;omega
  simp[f270,underlying65,s,this]
 simp[f270,underlying65,o];refine ia (fun k:Nat=>[(16,aa m.length),(17,aa k),(15,bh (l.map aN)),(1,bh (m.map aN)),(2,.c (.bG 271 []))]) (fun k H=>k<=l.length/\(l=m↔l.drop k=m.drop k)) (fun k=>l.length-k) ?_ 0 (by simp) (by simp) fun _=>rfl;rintro k e H ⟨g,i,p,q,r,_⟩ ⟨x,j⟩;by_cases d:k<m.length
 .have f:k<l.length:=by omega
  have t:l.drop k=l[k]::l.drop (k+1):=afv f;have u:m.drop k=m[k]::m.drop (k+1):=afv d;have v:ads.wrap ((k:Int)+1)=((k+1:Nat):Int):=cr (by unfold maxLen at hm;omega);have n:l=m↔l[k]=m[k]/\l.drop (k+1)=m.drop (k+1):=by rw[j,t,u,aiu]
  have a:=SP l[k] m[k] (hn _ (air f));simp only[aN,aG]at a;by_cases b:l[k]=m[k]
  .simp only[b,true_and]at n;simp[b]at a;simp[aN,g,i,p,q,r,d,f,b,v,a];exact⟨k+1,by omega,by simp,by omega,n⟩
  .simp[b]at a;have w:¬l=m:=by simpa[b]using n
   simp[aN,g,i,p,q,r,d,f,a,w]
 .simp[g,i,d];rw[aip (by omega),aip (by omega)]at j;simpa using j
def abo(a b:ci)(c:iN a):aS tz ay 0 213 [.agg (bQ a),.agg (bQ b)]=some (aR (decide (a=b)),[]):=by refine be func213 rfl ?_;have h:=aeg a.aA b.aA c.hm c.hn;have⟨l,s⟩:=a;have⟨d,f⟩:=b;simp only at h;by_cases e:l=d<;>simp[f213,bQ,h,e]
def WU(b:ci)(id:Int)(d:iN b):aS tz ay 0 260 [.agg (bQ b),aa id]=some (if cM b=false then .aM [aa 0,aa 170]else match b.aA.find? (fun s=>decide (s.id=id))with|none=> .aM [aa 0,aa 174]|some s=> .aM [aa s.state,aa 0],[]):=by
 refine be func260 rfl ?_;have a:=wi b d.hm d.hn;have c:=Q7 b id d.hm;simp only[bQ]at a c;cases f:cM b with
 |false=>simp[f]at a;simp[f260,bQ,a]
 |true=>
  simp[f]at a;cases g:b.aA.find? (fun s=>decide (s.id=id))with
  |none=>have e:dw (fun s:bY=>decide (s.id=id)) 0 b.aA= -1:=qG 0 g;rw[e]at c;simp[f260,bQ,a,c]
  |some s=>
   obtain⟨k,e,h,i⟩:∃k:Nat,dw (fun s:bY=>decide (s.id=id)) 0 b.aA=k/\∃h:k<b.aA.length,b.aA[k]=s:=by simpa using wW 0 g
   rw[e]at c;simp[f260,bQ,a,c,h,i,aN]
def xj(b:ci)(a:List Int):au×List Ob:=if a=[]then(.aM [.agg [I b.last,.sl 0 0 0 b.aA.length],.c ap,aa 0],[ah 4 (b.aA.map aN)])else(.aM [.agg [I b.last,.sl 0 0 0 b.aA.length],bd 1 0 0 a.length,aa 0],[ah 4 (b.aA.map aN),ah 1 (a.map aC)])
def YX(b:ci)(peer:Int)(d:iN b):aS tz ay 0 127 [.agg (bQ b),aa peer]=some (if cM b=false then(.aM [.agg [I 0,.aj []],.c ap,aa 170],[])else xj (iS b peer).1 (iS b peer).2.1):=by
 obtain⟨⟨v,o⟩,a⟩:∃r,(if cM b=false then((.aM [.agg [I 0,.aj []],.c ap,aa 170],[]):au×List Ob)else xj (iS b peer).1 (iS b peer).2.1)=r:=⟨_,rfl⟩;rw[a];refine be func127 rfl ?_;have f:=wi b d.hm d.hn;have w:=xJ b d;simp only[bQ]at f w;cases n:cM b with
 |false=>simp[n]at f a;obtain⟨rfl,rfl⟩:=a;simp[f127,bQ,f]
 |true=>
  simp[n]at f a;simp[-dF,f127,bQ,f,w];have⟨K,rows,B,C,p,g⟩:=aeM (l:=b.aA) (peer:=peer) (h:=3) (ver:=0) (c:=2) (H:=[ah 2 [[I b.last,.sl 3 0 0 b.aA.length]],ah 2 [[I 0,ap]],ah 1 [[ap]],ah 4 (b.aA.map aN)]) d.1 d.2 rfl ⟨ap,rfl,.inl ⟨rfl,rfl⟩⟩ (by decide);rw[B];have j:=g.b.2 0 0 2 [[I b.last,.sl 3 0 0 b.aA.length]] rfl (by decide) (by decide);have q:=g.b.2 1 0 2 [[I 0,ap]] rfl (by decide) (by decide);have⟨T,c1,c2⟩:=g.i;have D:∀y,(K.set 0 y)[0]?=some y:=fun y=>ba j;have z:∀y,(K.set 0 y)[1]?=_:=fun y=>(aay (by decide)).trans q;have E:∀y,(K.set 0 y)[2]?=_:=fun y=>(aay (by decide)).trans c1;have F:∀x y,((K.set 0 x).set 1 y)[1]?=some y:=fun x y=>ba (z x);simp[-dF,j,D,z,E,F];have w3:∀x y,((K.set 0 x).set 1 y)[3]?=some (ah 4 rows):=by intro x y;rw[aay (by decide),aay (by decide)];exact g.r
  have G:pu peer b.aA b.aA.length=(b.aA.filter (cg peer)).map (·.id):=by simp[pu]
  rw[G]at c2;have J:iS b peer=(⟨b.last,b.aA.filter fun s=>!cg peer s⟩,(b.aA.filter (cg peer)).map (·.id),0):=by unfold iS;rw[if_neg (by simp[n])]
  rw[J]at a;have⟨L,M⟩:=ak ((b.aA.filter (cg peer)).map (·.id));rw[M]at c2 a;have t:(b.aA.filter fun x=>!cg peer x).length<=rows.length:=by rw[C];exact ah2 _ _
  have⟨N,O⟩:=ak (b.aA.filter fun x=>!cg peer x);rw[O]at p t a|-;have A:=bW N;rw[<-a];simp only[xj];rcases c2 with⟨u,rfl⟩|⟨k,P,u,U,rfl,m⟩
  .rw[if_pos u];simp[w3,t,p,A]
  .have Q:¬k=3:=fun e=>by subst e;have:=g.r;rw[m]at this;simp at this
   have R:0≠k:=fun e=>by subst e;rw[m]at j;simp at j
   have S:1≠k:=fun e=>by subst e;rw[m]at q;simp at q
   have w4:∀x y,((K.set 0 x).set 1 y)[k]?=some (.live P 1 (L.map aC)):=by intro x y;rw[aay S,aay R];exact m
   rw[if_neg u];simp[w3,w4,t,p,A,Q]
section
variable{b z:Nat}{H H':List Ob}{lf:ab}{C:bu}{ce:cY}{e:Env}
def rf:ab->List Nat
 | .sl h _ _ _=>[h]
 |_=>[]
def eu(row:List ab):List Nat:=row.flatMap rf
def oH:Option Ob->List Nat
 |some (.live _ _ [row])=>eu row
 |_=>[]
def bq(b:Nat)(H H':List Ob):Prop:=H.length<=H'.length/\∀(m:Nat) (o:Ob),H[m]?=some o->m≠b->m∉oH H[b]?->H'[m]?=some o/\m∉oH H'[b]?
def bq.refl(b:Nat)(H:List Ob):bq b H H:=⟨adt _,fun _ _ h _ a=>⟨h,a⟩⟩
def bq.trans{a:List Ob}(h:bq b H H')(c:bq b H' a):bq b H a:=⟨aiZ h.1 c.1,fun m o e d f=>by have⟨g,i⟩:=h.2 m o e d f;exact c.2 m o g d i⟩
def bq.bJ{v f g:Nat}{row c:List ab}(h:H[b]?=some (.live v z [row]))(i:H'[b]?=some (.live f g [c]))(j:H.length<=H'.length)
  (k:∀m∈eu c,m∈eu row\/H.length<=m) (l:∀(m:Nat) (o:Ob),H[m]?=some o->m≠b->m∉eu row->H'[m]?=some o):bq b H H':=⟨j,fun m o d n a=>by
 rw[h]at a
 rw[i]
 refine⟨l m o d n a,fun p=>?_⟩
 rcases k m p with e|e
 .exact a e
 .have:=bf d
  omega⟩
def bq.snoc{x:List Ob}(a:b<H.length):bq b H (H++x):=⟨by simp,fun m o c e d=>⟨aV c,by rw[aaK a];exact d⟩⟩
def gD(H:List Ob)(z:Nat)(lf:ab)(rows t:List (List ab)):Prop:= ∃a b,lf= .sl a b 0 rows.length/\H[a]?=some (.live b z (rows++t))
def kQ(H:List Ob)(z:Nat)(lf:ab)(rows:List (List ab)):Prop:=(rows=[]/\lf=ap)\/gD H z lf rows []
def gD.aJ{rows t:List (List ab)}(h:gD H z lf rows t)(a:∀(m v:Nat) (r:List (List ab)),m∈rf lf->H[m]?=some (.live v z r)->H'[m]?=some (.live v z r)):gD H' z lf rows t:=by obtain⟨b,c,rfl,d⟩:=h;exact⟨b,c,rfl,a _ _ _ (by simp[rf]) d⟩
def kQ.aJ{H H':List Ob}{z:Nat}{lf:ab}{rows:List (List ab)}(h:kQ H z lf rows)(a:∀(m v:Nat) (r:List (List ab)),m∈rf lf->H[m]?=some (.live v z r)->H'[m]?=some (.live v z r)):kQ H' z lf rows:=by
 rcases h with h|h
 .exact .inl h
 .exact .inr (h.aJ a)
def gD.lt{rows t:List (List ab)}(h:gD H z lf rows t):∀m∈rf lf,m<H.length:=by obtain⟨b,c,rfl,a⟩:=h;intro m hm;simp[rf]at hm;subst hm;exact bf a
def kQ.lt{H:List Ob}{z:Nat}{lf:ab}{rows:List (List ab)}(h:kQ H z lf rows):∀m∈rf lf,m<H.length:=by
 rcases h with⟨_,rfl⟩|h
 .intro m hm;simp[rf]at hm
 .exact h.lt
def fW(x:Ev):List ab:=[I x.kind,I x.node,I x.id,I x.peer,if x.kind=0 then aG x.need else ap]
def bN(w:Wk)(sl a b c d se:ab):List ab:=[I w.n.dr.ai.id,I w.n.dr.ai.phase,sl,I w.n.dr.aQ,aG w.n.dr.need,I w.n.book.last,a,b,aG w.n.told,c,d,se,I w.e]
def kF(H:List Ob)(a:ab)(l:List bY):Prop:=a= .aj (l.map aN)\/gD H 4 a (l.map aN) []
def kF.aJ{H H':List Ob}{a:ab}{l:List bY}(h:kF H a l)(b:∀(m v:Nat) (r:List (List ab)),m∈rf a->H[m]?=some (.live v 4 r)->H'[m]?=some (.live v 4 r)):kF H' a l:=by
 rcases h with h|h
 .exact .inl h
 .exact .inr (h.aJ b)
structure cF(H:List Ob)(b:Nat)(w:Wk)(sl ss kn ks ol se:ab):Prop where
 hb:H[b]?=some (ah 13 [bN w sl ss kn ks ol se])
 hs:∃t,gD H 8 sl (w.n.dr.ai.af.map ax) t
 dc:kF H ss w.n.book.aA
 hk:gD H 2 kn (w.n.known.map aW) []
 ha:kQ H 2 ks (w.n.asked.map aW)
 ho:kQ H 5 ol (w.out.map dX)
 he:kQ H 5 se (w.seen.map fW)
 d1:∀m∈rf kn,m∉rf ks
 d2:∀m∈rf ol,m∉rf se
def bZ(H:List Ob)(b:Nat)(w:Wk):Prop:= ∃sl a c d e se,cF H b w sl a c d e se
def bZ.snoc{x:List Ob}{w:Wk}(h:bZ H b w):bZ (H++x) b w:=by have⟨sl,a,c,d,e,se,f,⟨t,g⟩,i,j,k,l,m,d1,d2⟩:=h;exact⟨sl,a,c,d,e,se,aV f,⟨t,g.aJ fun _ _ _ _ h=>aV h⟩,i.aJ fun _ _ _ _ h=>aV h,j.aJ fun _ _ _ _ h=>aV h,k.aJ fun _ _ _ _ h=>aV h,l.aJ fun _ _ _ _ h=>aV h,m.aJ fun _ _ _ _ h=>aV h,d1,d2⟩
def mT{j:Nat}{a b}{all:List Oper}:jn C ce ⟨[],some j,a,b⟩ all e H=kZ C ce ⟨[],some j,a,b⟩ H.length ((tJ 0 all).map fun p=>(p.1,iy all p.2)) e (H++[.dead]):=by unfold jn qR;simp only;rw[OY,ul]
def sJ{k j:Nat}{a b c}{all:List Oper}:jn C ce ⟨k::a,some j,b,c⟩ all e H=kZ C ce ⟨k::a,some j,b,c⟩ H.length ((tag all (k::a)).map fun p=>(p.1,iy all p.2)) e (H++[.dead]):=by unfold jn qR;simp only;rw[ul]
end
def PO(x:aI):aS tz ay 0 74 [.agg (ax x)]=some (aR (oC x),[]):=by refine be func74 rfl ?_;simp[f74,ax,oC]
def E7(x:aI):aS tz ay 0 207 [.agg (ax x)]=some (aR (gM x),[]):=by refine be func207 rfl ?_;simp[f207,ax,gM]
def ac9(x:aI):aS tz ay 0 184 [.agg (ax x)]=some (aR (decide (x.state=3)),[]):=by refine be func184 rfl ?_;simp[f184,ax]
def Zu(x:aI)(p:Int):aS tz ay 0 110 [.agg (ax x),.c (.aK [[I p]] 0 0)]=some (aR (decide (x.peer=p)),[]):=by refine be func110 rfl ?_;simp[f110,ax]
def UO(x:aI)(k:cu):aS tz ay 0 252 [.agg (ax x),.c (.aK [aW k] 0 0)]=some (aR (decide (x.peer=k.peer)),[]):=by refine be func252 rfl ?_;simp[f252,ax,aW]
def NQ(n:Nd):aS tz ay 0 119 [.agg (aT n)]=some (match n.book.aA with|[]=> .aM [.agg [I 0,.aj [],I 0,I 0],aR false]|s::_=> .aM [.agg (aN s),aR true],[]):=by
 refine be func119 rfl ?_;cases a:n.book.aA with
 |nil=>simp[f119,underlying65,aT,a]
 |cons s r=>simp[f119,underlying65,aT,a,aN]
def DX(n:Nd)(p:Int)(hm:n.known.length<=maxLen):aS tz ay 0 70 [.agg (aT n),aa p]=some (aa (gR n.known p),[]):=by
 refine be func70 rfl ?_;have⟨l,f⟩:=ak n.known;rw[f]at hm|-;simp[f70,underlying68,aT,f];refine ia (fun k:Nat=>[(9,aa l.length),(10,aa k),(8,bh (l.map aW)),(1,aa p)]) (fun k _=>k<=l.length/\gR l p=gR (l.drop k) p) (fun k=>l.length-k) ?_ 0 (by simp) (by simp) fun _=>rfl;rintro k e H ⟨c,d,g,h,_⟩ ⟨m,a⟩;by_cases b:k<l.length
 .have i:l.drop k=l[k]::l.drop (k+1):=afv b;have j:ads.wrap ((k:Int)+1)=((k+1:Nat):Int):=cr (by unfold maxLen at hm;omega);rw[i]at a;simp only[gR]at a;by_cases hp:l[k].peer=p
  .rw[if_pos hp]at a;simp[aW,c,d,g,h,b,hp];exact a.symm
  .rw[if_neg hp]at a;simp[aW,c,d,g,h,b,hp,j];exact⟨k+1,by omega,by simp,by omega,a⟩
 .simp[c,d,b];rw[a,aip (by omega)];rfl
def YM(id b:Int)(l:List aI)(a:List ab)(e:cw a=true)(p:Int)(hm:l.length<=maxLen):aS tz ay 0 69 [.c (.aK [I id::I b:: .aj (l.map ax)::a] 0 0),aa p]=some (aa (dw (cQ p) 0 l),[]):=by
 refine be func69 rfl ?_;have d:=yH (g:=110) (caps:=[.aK [[I p]] 0 0]) l hm (cQ p) (fun x _=>by have:=Zu x p;simp[ax]at this;simp[ax,this,cQ])
 simp[f69,d]
def iB(l:List Int):au×List Ob:=if l=[]then(.c ap,[])else cy l
def abg(H:List Ob)(a:ab)(F:List aI):Prop:=(F=[]/\a=ap)\/F≠ []/\gD H 1 a (F.map fun x=>aC x.peer) []
def JG(n:Nd)(g:FuncId)(p:aI->Bool)(hm:n.af.length<=1000000)(y:tz.md g=0)(hc:∀x∈n.af,aS tz ay 0 g [.agg (ax x)]=some (aR (p x),[])):aS tz ay 0 186 [.agg (aT n),.c (.bG g [])]=some (iB ((n.af.filter p).map (·.peer))):=by
 have⟨l,B⟩:=ak n.af;have G:n.dr.ai.af=l:=B;rw[B]at hm hc|-;obtain⟨⟨N,O⟩,f⟩:∃v,iB ((l.filter p).map (·.peer))=v:=⟨_,rfl⟩;rw[f];refine be func186 rfl ?_;simp[-dF,f186,underlying59,aT,G];refine ia (fun q:Nat×ab=>[(12,aa l.length),(13,aa q.1),(11,bh (l.map ax)),(1,.c (.bG g [])),(5,.c q.2)]) (fun q H=>q.1<=l.length/\abg H q.2 ((l.take q.1).filter p)) (fun q=>l.length-q.1) ?_ (0,ap) (by simp) ⟨by simp,.inl ⟨by simp,rfl⟩⟩ fun _=>rfl;rintro⟨k,J⟩ e H ⟨i,j,s,t,m,_⟩ ⟨C,a⟩;simp only at i j s t m C a;by_cases r:k<l.length
 .have z:l.take (k+1)=l.take k++[l[k]]:=jK r;have A:ads.wrap ((k:Int)+1)=((k+1:Nat):Int):=cr (by omega);have d:=hc _ (air r);have⟨x,u⟩:=ak l[k];rw[u]at d z;simp only[ax]at d;have⟨F,o⟩:=ak ((l.take k).filter p);rw[o]at a
  have P:F.length<=1000000:=by
   have K:=ah2 p (l.take k);have C:(l.take k).length<=k:=by simp;omega
   rw[o]at K;omega
  cases hp:p x with
  |false=>
   rw[hp]at d;have w:(l.take (k+1)).filter p=F:=by rw[z,ajh,o];simp[hp]
   simp[-dF,i,j,s,t,m,r,u,ax,y,d,A];refine⟨k+1,by omega,J,⟨by simp,rfl⟩,by omega,?_⟩;rw[w];rcases a with⟨a,b⟩|⟨a,b⟩
   .exact .inl ⟨a,b⟩
   .exact .inr ⟨a,b.aJ fun _ _ _ _ h=>aV h⟩
  |true=>
   rw[hp]at d;have w:(l.take (k+1)).filter p=F++[x]:=by rw[z,ajh,o];simp[hp]
   rcases a with⟨a,rfl⟩|⟨a,D,E,rfl,b⟩
   .subst a;simp[-dF,i,j,s,t,m,r,u,ax,y,d,A];refine⟨k+1,by omega,_,⟨by simp,rfl⟩,by omega,?_⟩;rw[w];refine .inr ⟨by simp,_,_,rfl,?_⟩;simp[aC]
   .have Q:=bf b;simp at b;simp[-dF,i,j,s,t,m,r,u,ax,y,d,A,aV b,show F.length+1<=maxLen/\(F.length+1)*8<=140737488355328 from⟨by unfold maxLen;omega,by omega⟩];refine⟨k+1,by omega,_,⟨by simp,rfl⟩,by omega,?_⟩;rw[w];refine .inr ⟨by simp,D,E+1,by simp,?_⟩;rw[ba (aV b)];simp
 .obtain rfl:k=l.length:=by omega
  simp only[aiv]at a;have⟨F,o⟩:=ak (l.filter p);rw[o]at a f;rcases a with⟨a,rfl⟩|⟨a,D,E,rfl,b⟩
  .simp[iB,a]at f;obtain⟨rfl,rfl⟩:=f;simp[i,j,m]
  .have L:F.map (fun x=>x.peer)≠ []:=by simpa using a
   simp only[iB,if_neg L,cy,aca]at f;obtain⟨rfl,rfl⟩:=f;simp at b;have M:bA (F.map fun x=>[I x.peer])=true:=je _ (fun _=>rfl) F;simp[i,j,m,b,M]
def MW(n:Nd)(hm:n.af.length<=1000000):aS tz ay 0 113 [.agg (aT n)]=some (iB (jY n)):=by
 have h:=JG n 74 oC hm (by simp) (fun x _=>PO x);have⟨l,a⟩:=ak ((n.af.filter oC).map (·.peer));rw[jY];rw[a]at h|-;simp only[aT,aG]at h;by_cases hn:l=[]
 .have e:iB l=(.c ap,[]):=by simp[iB,hn]
  rw[e]at h|-;refine be func113 rfl ?_;simp[f113,aT,bL,bW,bS,h]
 .have e:iB l=cy l:=by simp[iB,hn]
  rw[e]at h|-;simp only[cy]at h|-;refine be func113 rfl ?_;simp[f113,aT,bL,bW,bS,h,bi]
def EL(l:List Int)(a:l.length<=100000):aS tz ay 0 112 [.c (aG l),.c ap]=some (aR (ld l []),[]):=by refine be func112 rfl ?_;have:=Fg (rP l) (b:= .c ap) (m:=[]) rfl a (by simp);simp[f112,bi,aG,this,cy,underlying30,ld];cases gH l []<;>rfl
def Pb(n:Nd)(k:cu)(hm:n.af.length<=1000000)(i:n.known.length<=1000000):aS tz ay 0 180 [.agg (aT n),.agg (aW k)]=some (aR (jx n k),[]):=by
 refine be func180 rfl ?_;have c:=DX n k.peer (by unfold maxLen;omega);have a:=xC (g:=252) (caps:=[.aK [aW k] 0 0]) n.af (by unfold maxLen;omega) (fun x=>decide (x.peer=k.peer)) (by simp) (by simp[aW]) (bL _) (fun x _=>by have:=UO x k;simp[ax,aW]at this;simp[ax,aW,this])
 simp only[aT,aG,aW]at c a;have f:n.af=n.dr.ai.af:=rfl;rw[f]at a;have⟨h,e⟩:=ak (gR n.known k.peer);rw[e]at c;cases c1:n.dr.ai.af.any (fun x=>decide (x.peer=k.peer))with
 |true=>rw[c1]at a;simp[f180,aT,aW,a,bL];simp[jx,cK,c1]
 |false=>
  rw[c1]at a;have d:cK n.dr.ai.af k.peer=false:=c1;by_cases c2:k.peer<0
  .have b:¬0<=k.peer:=by omega
   simp[f180,aT,aW,a,bL,b];simp[jx,d,c2]
  have b:0<=k.peer:=by omega
  by_cases c3:k.peer<n.dr.ai.id
  case neg=>simp[f180,aT,aW,a,bL,b,c3];simp[jx,d,c2,c3]
  by_cases c4:k.aP>h
  case neg=>simp[f180,aT,aW,a,bL,bW,bS,c,b,c3,c4];simp[jx,d,c2,c3,c4,e]
  by_cases c5:k.aP<=65535;all_goals simp[f180,aT,aW,a,bL,bW,bS,c,b,c3,c4,c5];simp[jx,d,c2,c3,c4,c5,e]
def abn(x k:cu):aS tz ay 0 253 [.agg (aW x),.c (.aK [aW k] 0 0)]=some (aR (decide (x.peer=k.peer)),[]):=by refine be func253 rfl ?_;simp[f253,aW]
def Yi(n:Nd)(k:cu)(hm:n.af.length<=1000000)(a:n.known.length<=1000000):aS tz ay 0 179 [.agg (aW k),.c (.aK [aT n] 0 0)]=some (aR (!jx n k),[]):=by refine be func179 rfl ?_;have h:=Pb n k hm a;simp only[aT,aG,aW]at h;simp[f179,aW,aT,bL,bW,bS,h]
def aab(n:Nd)(x:aI)(d:n.known.length<=1000000):aS tz ay 0 176 [.agg (ax x),.c (.aK [aT n] 0 0)]=some (aR (lO n x),[]):=by
 refine be func176 rfl ?_;have h:=DX n x.peer (by unfold maxLen;omega);have⟨b,a⟩:=ak (gR n.known x.peer);rw[a]at h;simp only[aT,aG]at h;by_cases c1:x.peer>=64
 .by_cases d1:x.state=1;all_goals simp[f176,ax,aT,c1,d1];simp[lO,c1]
 have e:x.peer<64:=by omega
 by_cases c2:x.aP<1
 .by_cases d1:x.state=1;all_goals simp[f176,ax,aT,c1,c2,d1];simp[lO,c2]
 by_cases c3:b=x.aP
 case neg=>by_cases d1:x.state=1;all_goals simp[f176,ax,aT,h,c1,c2,c3,d1,bL,bW,bS];simp[lO,a,c3]
 by_cases d1:x.state=1
 .by_cases c4:x.peer<n.dr.ai.id
  .simp[f176,ax,aT,h,c1,c2,c3,c4,d1,bL,bW,bS];simp[lO,d1,c4]
  .simp[f176,ax,aT,h,c1,c2,c3,c4,d1,bL,bW,bS];simp[lO,a,c1,c2,c3,c4]
 by_cases d2:x.state=3
 .by_cases c4:x.peer<n.dr.ai.id
  .simp[f176,ax,aT,h,c1,c2,c3,c4,d2,bL,bW,bS];simp[lO,d2,c4]
  .simp[f176,ax,aT,h,c1,c2,c3,c4,d2,bL,bW,bS];simp[lO,a,c1,c2,c3,c4]
 .simp[f176,ax,aT,h,c1,c2,c3,d1,d2,bL,bW,bS];simp[lO,a,c1,c2,c3,d1,d2]
def oY(a:Int)(k:cu):Bool:=decide (k.peer>a)&&decide (k.peer<64)&&decide (k.aP>=1)&&decide (k.aP<=65535)
def ab3(k:cu)(b:Int)(h:Nat)(H:List Ob)(a:H[h]?=some (ah 1 [[I b]])):bB tz (ev tz) 177 [.agg (aW k),aw h] H=some (aR (!oY b k),H.set h (ah 1 [[I k.peer]])):=by
 refine te func177 rfl ?_;by_cases c1:k.peer>b
 case neg=>simp[f177,aW,a,oY,c1]
 by_cases c2:k.peer<64
 case neg=>simp[f177,aW,a,oY,c1,c2]
 by_cases c3:k.aP>=1
 case neg=>simp[f177,aW,a,oY,c1,c2,c3]
 by_cases c4:k.aP<=65535
 .simp[f177,aW,a,oY,c1,c2,c3,c4]
 .simp[f177,aW,a,oY,c1,c2,c3,c4]
def Pc(l:List cu)(hm:l.length<=1000000):aS tz ay 0 181 [bh (l.map aW)]=some (aR (kP [] l),[]):=by
 refine be func181 rfl ?_;simp[f181,underlying68];refine ia (fun k:Nat=>[(6,aa l.length),(7,aa k),(5,bh (l.map aW)),(0,bh (l.map aW))]) (fun k _=>k<=l.length/\kP [] l=kP (l.take k) (l.drop k)) (fun k=>l.length-k) ?_ 0 (by simp) (by simp) fun _=>rfl;rintro k e H ⟨d,f,j,m,_⟩ ⟨n,a⟩;by_cases c:k<l.length
 .have p:l.drop k=l[k]::l.drop (k+1):=afv c;have q:l.take (k+1)=l.take k++[l[k]]:=jK c;have r:ads.wrap ((k:Int)+1)=((k+1:Nat):Int):=cr (by omega);rw[p]at a;simp only[kP]at a;rw[<-q]at a;have b:=Lo (g:=253) (caps:=[.aK [aW l[k]] 0 0]) (l.take k) (by unfold maxLen;simp;omega) (fun x=>decide (x.peer=l[k].peer)) (by simp) (by simp[aW]) (bS _) (fun x _=>by have:=abn x l[k];simp[aW]at this;simp[aW,this])
  have⟨x,h⟩:=ak l[k];simp only[h]at b a;simp only[aW]at b;have i:=bS (l.take k);rw[akH]at b i;cases o:(l.take k).any (fun s=>decide (s.peer=x.peer))with
  |true=>rw[o]at b a;simp at a;simp[aW,d,f,j,m,c,h,b,i,n,a]
  |false=>rw[o]at b a;simp at a;simp[aW,d,f,j,m,c,h,r,b,i,n];exact⟨k+1,by omega,by simp,by omega,a⟩
 .simp[d,f,c];rw[a,aip (by omega)];rfl
def nr(l:List cu)(k:Nat):Int:=match k with
 |0=> -1
 |k+1=>(l[k]?.map (·.peer)).getD (-1)
def Sb(l:List cu):∀(r:List cu) (k:Nat),l.drop k=r->k<=l.length->decide (0<=fX (fun k x=>!oY (nr l k) x) k r)=!nq (nr l k) r
 |[],k,h,e=>rfl
 |x::r,k,h,e=>by
  have b:k<l.length:=by
   rcases aj2 k l.length with a|a
   .exact a
   .rw[aip a]at h;cases h
  have c:l[k]=x/\l.drop (k+1)=r:=by
   rw[afv b]at h
   exact List.cons.inj h
  have f:nr l (k+1)=x.peer:=by simp[nr,b,c.1]
  simp only[fX,nq]
  have g:oY (nr l k) x=(decide (x.peer>nr l k)&&decide (x.peer<64)&&decide (x.aP>=1)&&decide (x.aP<=65535)):=rfl
  rw[<-g]
  by_cases d:oY (nr l k) x=true
  .have:=Sb l r (k+1) c.2 (by omega)
   rw[f]at this
   simp only[d,Bool.not_true,aeb,if_false,Bool.true_and]
   exact this
  .have i:oY (nr l k) x=false:=by simpa using d
   simp[i]
def aaX(n:Nd)(hm:n.af.length<=10000)(i:n.known.length<=1000000)(j:n.told.length<=100000)(c:Nat)(H:List Ob)(hc:H[c]?=some (ah 1 [[I (-1)]])):
  ∃h,bB tz (ev tz) 182 [.agg (aT n),.c (.bG 177 [.ptr c 0 0 0]),.c (.bG 176 [.aK [aT n] 0 0])] H=some (aR (rM n),h):=by
 have s:=cG (C:=tz) (f:=182) (args:=[.agg (aT n),.c (.bG 177 [.ptr c 0 0 0]),.c (.bG 176 [.aK [aT n] 0 0])]) (H:=H) (fun r h=>r=aR (rM n)) func182 rfl ?_
 .obtain ⟨r,h,a,rfl⟩:=s
  exact⟨h,a⟩
 have⟨h,a,y⟩:=S7 (g:=177) (caps:=[.ptr c 0 0 0]) n.known (by unfold maxLen;omega) (fun k H=>H[c]?=some (ah 1 [[I (nr n.known k)]])) (fun k x=>!oY (nr n.known k) x) (by simp) (fun k i H l=>by
  have:=ab3 n.known[k] (nr n.known k) c H l
  refine⟨H.set c (ah 1 [[I n.known[k].peer]]),?_,?_⟩
  .rw[dz (f:=177) rfl]
   simpa using this
  .rw[ba l];simp[nr,i]) H hc
 rw[Sb n.known n.known 0 rfl (by omega)]at a
 have b:=xC (g:=176) (caps:=[.aK [aT n] 0 0]) n.af (by unfold maxLen;omega) (lO n) (by simp) (by simp[aT,bL,bW,bS]) (bL _) (fun x _=>by
  have:=aab n x i
  simp[ax,aT]at this
  simp[ax,aT,this,bL,bW,bS])
 have e:=E4 n.told (by unfold maxLen;omega)
 have d:=JG n 207 gM (by omega) (by simp) (fun x _=>E7 x)
 have t:n.af=n.dr.ai.af:=rfl
 rw[t]at b
 have u:(n.af.filter gM).map (·.peer)=vw n:=rfl
 have v:(vw n).length<=10000:=by
  have:=ah2 gM n.af
  simp only[vw,ahL]
  omega
 rw[u]at d
 have⟨m,o⟩:=ak (vw n)
 simp only[rM,o]
 rw[o]at d v
 have p:=CH n.told m j (by omega)
 have q:=EL n.told j
 simp only[aT,aG]at b e d p q
 have w:nr n.known 0= -1:=rfl
 rw[w]at a
 by_cases c1:n.dr.ai.id<64
 case neg=>
  simp[f182,aT,c1]
 cases c2:nq (-1) n.known with
 |false=>
  rw[c2]at a
  simp at a
  simp[f182,aT,c1,a]
 |true=>
  rw[c2]at a
  simp at a
  cases c3:n.dr.ai.af.any (lO n)with
  |true=>
   rw[c3]at b
   simp[f182,aT,c1,bL,bW,bS,a,b]
  |false=>
   rw[c3]at b
   cases c4:ei n.told with
   |false=>
    rw[c4]at e
    simp[f182,aT,c1,bL,bW,bS,a,b,e]
   |true=>
    rw[c4]at e
    by_cases c5:m=[]
    .subst c5
     simp only[iB,if_true]at d
     simp[f182,aT,c1,bL,bW,bS,a,b,e,d,q]
    .simp only[iB,if_neg c5,cy]at d
     simp[f182,aT,c1,bL,bW,bS,a,b,e,d,p,bi]
def Wu(n:Nd)(hm:n.af.length<=10000)(c:n.known.length<=1000000)(e:n.told.length<=100000)(f:n.asked.length<=1000000):aS tz ay 0 107 [.agg (aT n)]=some (aR (pj n),[]):=by
 refine be func107 rfl ?_;have a:=Lo (g:=179) (caps:=[.aK [aT n] 0 0]) n.asked (by unfold maxLen;omega) (fun k=>!jx n k) (by simp) (by simp[aT,bL,bW,bS]) (bS _) (fun k _=>by have:=Yi n k (by omega) c;simp[aW,aT]at this;simp[aW,aT,this,bL,bW,bS])
 have b:=Pc n.asked f;have⟨h,d⟩:=aaX n hm c e 0 [ah 1 [[I (-1)]]] rfl;simp only[aT,aG]at a d;cases c1:n.asked.any (fun k=>!jx n k)with
 |true=>rw[c1]at a;simp[f107,aT,bL,bW,bS,a];simp[pj,c1]
 |false=>
  rw[c1]at a;cases c2:kP [] n.asked with
  |false=>rw[c2]at b;simp[f107,aT,bL,bW,bS,a,b];simp[pj,c1,c2]
  |true=>rw[c2]at b;simp[f107,aT,bL,bW,bS,a,b,d];simp[pj,c1,c2]
def AD(n:Nd)(s:bY):Bool:=decide (s.state=0)&&!ld s.need (jY n)
def U3(n:Nd)(s:bY)(hm:n.af.length<=10000)(b:s.need.length<=100000):aS tz ay 0 188 [.agg (aN s),.c (.aK [aT n] 0 0)]=some (aR (AD n s),[]):=by
 refine be func188 rfl ?_;have a:=MW n (by omega);have h:(jY n).length<=10000:=by have:=ah2 oC n.af;simp only[jY,ahL];omega
 have⟨d,e⟩:=ak (jY n);simp only[AD,e];rw[e]at a h;have f:=CH s.need d b (by omega);have g:=EL s.need b;simp only[aT,aG]at a f g;by_cases c1:s.state=0
 case neg=>simp[f188,aN,aT,c1]
 by_cases c5:d=[]
 .subst c5;simp only[iB,if_true]at a;simp[f188,aN,aT,bL,bW,bS,c1,a,g]
 .simp only[iB,if_neg c5,cy]at a;simp[f188,aN,aT,bL,bW,bS,c1,a,f,bi]
def Vg(n:Nd)(hm:n.af.length<=10000)(u:iN n.book)(hn:n.dr.need.length<=100000):aS tz ay 0 108 [.agg (aT n)]=some (aR (tL n),[]):=by
 refine be func108 rfl ?_;have d:=NQ n;have y:(qk n).length<=10000:=by have:=ah2 (fun x:aI=>decide (x.state=3)) n.af;simp only[qk,ahL];omega
 have e:=JG n 184 (fun x=>decide (x.state=3)) (by omega) (by simp) (fun x _=>ac9 x);have z:(n.af.filter fun x=>decide (x.state=3)).map (·.peer)=qk n:=rfl;rw[z]at e;have⟨q,v⟩:=ak (qk n);rw[v]at e y;have h:=aaw (g:=188) (caps:=[.aK [aT n] 0 0]) n.book.aA (by have:=u.1;unfold maxLen;omega) (AD n) (by simp) (by simp[aT,bL,bW,bS]) (bW _) (fun s f=>by have:=U3 n s hm (u.2 s f);simp[aN,aT]at this;simp[aN,aT,this,bL,bW,bS])
 have⟨o,p⟩:=ak (ke n.dr.need q);have i:=LU (a:= .c (aG n.dr.need)) (b:= .c (aG q)) (xb _) (xb _) hn (by omega);have j:=LU (a:= .c (aG n.dr.need)) (b:= .c ap) (m:=[]) (xb _) rfl hn (by simp);have C:bA (o.map aC)=true:=bi o;cases f:n.book.aA with
 |nil=>
  have t:bA ([]:List (List ab))=true:=rfl;rw[f]at d h;simp only[tL,f,v,p];simp only[aT,aG,f,aiO]at d e h i j;simp at h;by_cases c2:n.dr.aQ=2
  .rw[c2]at d;simp[f108,aT,f,bL,bS,d,c2]
  by_cases k:n.dr.aQ=0
  case neg=>simp[f108,aT,f,bL,bS,d,c2,k]
  rw[k]at d e h;by_cases c5:q=[]
  .subst c5;simp only[iB,if_true]at e;rw[p]at j;simp only[cy]at j;cases o with
   |nil=>simp[f108,underlying30,aT,f,bL,bS,d,e,h,j,bi,k]
   |cons x r=>simp[f108,underlying30,aT,f,bL,bS,d,e,j,bi,k]
  .simp only[iB,if_neg c5,cy]at e;rw[p]at i;simp only[cy]at i;cases o with
   |nil=>simp[f108,underlying30,aT,f,bL,bS,d,e,h,i,bi,k]
   |cons x r=>simp[f108,underlying30,aT,f,bL,bS,d,e,i,bi,k]
 |cons s r=>
  have t:bA (aN s::r.map aN)=true:=bW (s::r);have l:=yG s.need n.dr.need (by have:=u.2 s (by rw[f];simp);unfold maxLen;omega);rw[f]at d h;simp only[tL,f,v,p];have⟨A,w⟩:=ak ((s::r).any (AD n));rw[w]at h;have B:((s::r).any fun s=>decide (s.state=0)&&!ld s.need (jY n))=A:=w;rw[B];simp only[aT,aG,aN,f,afL]at d e h i j t;by_cases c2:n.dr.aQ=2
  .rw[c2]at d e h;by_cases c1:s.state=1
   case neg=>simp[f108,aT,aN,f,bL,bS,bW,d,c2,c1]
   rw[c1]at d e h t;by_cases c3:s.need=n.dr.need
   case neg=>simp[c3]at l;simp[f108,aT,aN,f,bL,bS,bW,d,l,c2,c1,c3]
   rw[c3]at d l e h t;simp at l;by_cases c5:q=[]
   .subst c5;simp only[iB,if_true]at e;rw[p]at j;simp only[cy]at j;cases o with
    |nil=>simp[f108,underlying30,aT,aN,f,bL,bS,bW,d,e,h,j,bi,l,c1,c2,c3]
    |cons x r=>simp[f108,underlying30,aT,aN,f,bL,bS,bW,d,e,j,bi,l,c1,c2,c3]
   .simp only[iB,if_neg c5,cy]at e;rw[p]at i;simp only[cy]at i;cases o with
    |nil=>simp[f108,underlying30,aT,aN,f,bL,bS,bW,d,e,h,i,bi,l,c1,c2,c3]
    |cons x r=>simp[f108,underlying30,aT,aN,f,bL,bS,bW,d,e,i,bi,l,c1,c2,c3]
  .by_cases c1:s.state=1
   .rw[c1]at d;simp[f108,aT,aN,f,bL,bS,bW,d,c2,c1]
   by_cases k:n.dr.aQ=0
   .rw[k]at d e h;by_cases c5:q=[]
    .subst c5;simp only[iB,if_true]at e;rw[p]at j;simp only[cy]at j;cases o with
     |nil=>simp[f108,underlying30,aT,aN,f,bL,bS,bW,d,e,h,j,bi,c1,k]
     |cons x r=>simp[f108,underlying30,aT,aN,f,bL,bS,bW,d,e,j,bi,c1,k]
    .simp only[iB,if_neg c5,cy]at e;rw[p]at i;simp only[cy]at i;cases o with
     |nil=>simp[f108,underlying30,aT,aN,f,bL,bS,bW,d,e,h,i,bi,c1,k]
     |cons x r=>simp[f108,underlying30,aT,aN,f,bL,bS,bW,d,e,i,bi,c1,k]
   .by_cases c3:s.need=n.dr.need
    case neg=>simp[c3]at l;simp[f108,aT,aN,f,bL,bS,bW,d,l,c2,c1,k,c3]
    rw[c3]at d l e h t;simp at l;by_cases c5:q=[]
    .subst c5;simp only[iB,if_true]at e;rw[p]at j;simp only[cy]at j;cases o with
     |nil=>simp[f108,underlying30,aT,aN,f,bL,bS,bW,d,e,h,j,bi,l,c1,c2,k,c3]
     |cons x r=>simp[f108,underlying30,aT,aN,f,bL,bS,bW,d,e,j,bi,l,c1,c2,k,c3]
    .simp only[iB,if_neg c5,cy]at e;rw[p]at i;simp only[cy]at i;cases o with
     |nil=>simp[f108,underlying30,aT,aN,f,bL,bS,bW,d,e,h,i,bi,l,c1,c2,k,c3]
     |cons x r=>simp[f108,underlying30,aT,aN,f,bL,bS,bW,d,e,i,bi,l,c1,c2,k,c3]
structure fm(n:Nd):Prop where
 si:n.dr.ai.af.length<=100
 nd:n.dr.need.length<=1000
 bk:iN n.book
 kn:n.known.length<=100000
 tl:n.told.length<=100000
 aq:n.asked.length<=100000
def I0(n:Nd)(h:fm n):aS tz ay 0 68 [.agg (aT n)]=some (aa (if dv n then 0 else 180),[]):=by
 refine be func68 rfl ?_;have e:=h.si;have f:=h.nd;have a:=Ab n.dr (by unfold maxLen;omega) (by unfold maxLen;omega);have b:=wi n.book h.bk.hm h.bk.hn;have c:=Wu n (by show n.dr.ai.af.length<=_;omega) (by have:=h.kn;omega) (by have:=h.tl;omega) (by have:=h.aq;omega);have d:=Vg n (by show n.dr.ai.af.length<=_;omega) h.bk (by omega);simp only[aT,cV,bQ,aG]at a b c d;cases c1:dE n.dr with
 |false=>simp[c1]at a;simp[f68,aT,bL,a,dv,c1]
 |true=>
  simp[c1]at a;cases c2:cM n.book with
  |false=>simp[c2]at b;simp[f68,aT,bL,bW,a,b,dv,c1,c2]
  |true=>
   simp[c2]at b;cases c3:pj n with
   |false=>rw[c3]at c;simp[f68,aT,bL,bW,bS,a,b,c,dv,c1,c2,c3]
   |true=>
    rw[c3]at c;cases c4:tL n with
    |false=>rw[c4]at d;simp[f68,aT,bL,bW,bS,a,b,c,d,dv,c1,c2,c3,c4]
    |true=>rw[c4]at d;simp[f68,aT,bL,bW,bS,a,b,c,d,dv,c1,c2,c3,c4]
def pU(n:Nd):au×List Ob:=(.agg [I n.dr.ai.id,I n.dr.ai.phase,.sl 0 0 0 n.dr.ai.af.length,I n.dr.aQ,aG n.dr.need,I n.book.last,.sl 1 0 0 n.book.aA.length,.sl 2 0 0 n.known.length,aG n.told,.sl 3 0 0 n.asked.length],[ah 8 (n.dr.ai.af.map ax),ah 4 (n.book.aA.map aN),ah 2 (n.known.map aW),ah 2 (n.asked.map aW)])
def yO(n:Nd)(h:fm n):aS tz ay 0 67 [.agg (aT n)]=some (pU n):=by
 unfold pU;refine be func67 rfl ?_;have j:=yi (a:= .aj (n.dr.ai.af.map ax)) (l:=n.dr.ai.af) rfl (by have:=h.si;omega);have c:=vp (a:= .aj (n.dr.need.map aC)) (l:=n.dr.need) rfl (by have:=h.nd;omega);have m:=vp (a:= .aj (n.told.map aC)) (l:=n.told) rfl (by have:=h.tl;omega);have o:=A5 (a:= .aj (n.known.map aW)) (l:=n.known) rfl (by have:=h.kn;omega);have p:=A5 (a:= .aj (n.asked.map aW)) (l:=n.asked) rfl (by have:=h.aq;omega);have q:=QO (a:= .aj (n.book.aA.map aN)) (l:=n.book.aA) rfl (by have:=h.bk.1;omega);simp[f67,underlying65,aT,j,c,m,o,p,q,bL,bW,bS];refine ia (fun k:Nat=>[(39,aa n.book.aA.length),(40,aa k),(1,aw 0),(2,aw 1)]) (fun k H=>k<=n.book.aA.length/\H=[ah 10 [[I n.dr.ai.id,I n.dr.ai.phase,.sl 2 0 0 n.dr.ai.af.length,I n.dr.aQ,aG n.dr.need,I n.book.last,.sl 5 0 0 n.book.aA.length,.sl 3 0 0 n.known.length,aG n.told,.sl 4 0 0 n.asked.length]],ah 10 [[I 0,I 0,ap,I 0,ap,I 0,ap,ap,ap,ap]],ah 8 (n.dr.ai.af.map ax),ah 2 (n.known.map aW),ah 2 (n.asked.map aW),ah 4 (n.book.aA.map aN)]) (fun k=>n.book.aA.length-k) ?_ 0 (by simp) (by simp[aG]) fun _=>rfl;rintro k e H ⟨d,f,g,i,_⟩ ⟨u,r⟩;subst r;by_cases b:k<n.book.aA.length
 .have s:ads.wrap ((k:Int)+1)=((k+1:Nat):Int):=cr (by have:=h.bk.hm;unfold maxLen at this;omega);have c:=vp (a:= .aj (n.book.aA[k].need.map aC)) (l:=n.book.aA[k].need) rfl (by have:=h.bk.2 _ (air b);omega);have t:(n.book.aA.map aN).set k [I n.book.aA[k].id,.aj (n.book.aA[k].need.map aC),I n.book.aA[k].state,I n.book.aA[k].cH]=n.book.aA.map aN:=jb (by simpa using b) (by simp[aN]);simp[d,f,g,i,b,s,c,aN,t];exact⟨k+1,by omega,by simp,by omega⟩
 .simp[d,f,g,i,b,bL,bW,bS]
def XI(a b:Nd)(h:fm a):aS tz ay 0 130 [.agg (aT a),.agg (aT b)]=some (aR (decide (a=b)),[]):=by
 have c:=ME a.dr b.dr (by have:=h.si;unfold maxLen;omega) (by have:=h.nd;unfold maxLen;omega);have d:=abo a.book b.book h.bk;have e:=RA a.known b.known (by have:=h.kn;unfold maxLen;omega);have g:=RA a.asked b.asked (by have:=h.aq;unfold maxLen;omega);have f:=yG a.told b.told (by have:=h.tl;unfold maxLen;omega);have⟨i,j,k,l,m⟩:=a;have⟨n,o,p,q,r⟩:=b;simp only at c d e g f;simp only[cV,bQ,aG]at c d;refine be func130 rfl ?_;by_cases c1:i=n
 case neg=>simp[c1]at c;simp[f130,aT,bL,c,c1]
 subst c1;simp at c;by_cases c2:j=o
 case neg=>simp[c2]at d;simp[f130,aT,bL,bW,c,d,c2]
 subst c2;simp at d;by_cases c3:k=p
 case neg=>simp[c3]at e;simp[f130,aT,bL,bW,bS,c,d,e,c3]
 subst c3;simp at e;by_cases c4:l=q
 case neg=>simp[c4]at f;simp[f130,aT,bL,bW,bS,c,d,e,f,c4]
 subst c4;simp at f;by_cases c5:m=r
 case neg=>simp[c5]at g;simp[f130,aT,bL,bW,bS,c,d,e,f,g,c5]
 subst c5;simp at g;simp[f130,aT,bL,bW,bS,c,d,e,f,g]
section
variable{H x:List Ob}{b:Nat}{ra:List (List ab)}{w:Wk}
def nY{z m v:Nat}{row r:List (List ab)}(a:H[b]?=some (ah 13 row))(c:z≠13)(y:Ob)(h:H[m]?=some (.live v z r)):((H++x).set b y)[m]?=some (.live v z r):=by
 have hm:b≠m:=fun e=>by subst e;rw[a]at h;cases h;exact c rfl
 rw[aay hm];exact aV h
def AC{a z c m v d:Nat}{row r:List (List ab)}(f:H[b]?=some (ah 13 row))(g:H[a]?=some (.live d c ra))(i:z≠13)(j:z≠c\/m≠a)(k l:Ob)(h:H[m]?=some (.live v z r)):(((H++x).set a k).set b l)[m]?=some (.live v z r):=by
 have hm:b≠m:=fun e=>by subst e;rw[f]at h;cases h;exact i rfl
 have n:a≠m:=fun e=>by
  subst e;rw[g]at h;cases h;rcases j with h|h
  .exact h rfl
  .exact h rfl
 rw[aay hm,aay n];exact aV h
def Dj{row row':List ab}(a:H[b]?=some (ah 13 [row]))(c:∀m∈eu row',m∈eu row\/H.length<=m):bq b H ((H++x).set b (ah 13 [row'])):=
 bq.bJ a (ba (aV a)) (by simp) c (fun m o d e f=>by rw[aay (ain e)];exact aV d)
def AP{a f g:Nat}{row c:List ab}(d:H[b]?=some (ah 13 [row]))(p:H[a]?=some (.live g f ra))(h:a≠b)(i:a∈eu row)(j:∀m∈eu c,m∈eu row\/H.length<=m)(y:Ob):bq b H (((H++x).set a y).set b (ah 13 [c])):=
 bq.bJ d (ba (by rw[aay h];exact aV d)) (by simp) j (fun m o k l n=>by
  rw[aay (ain l),aay (fun e=>n (by subst e;exact i))];exact aV k)
def zD{sl q s u E se:ab}(h:cF H b w sl q s u E se)(x:aI)(k:Int)(M:w.out.length<=100000):
  ∃i,bB tz (ev tz) 266 [aw b,.agg (ax x),aa k] H=some (.aM [],i)/\(∃F G,cF i b (w.send x k) sl q s u F G)/\bq b H i:=by
 have⟨a,⟨t,y⟩,A,B,C,I,j,d1,d2⟩:=h
 refine gv func266 rfl ?_
 have N:=bf a
 have O:=a
 simp only[bN]at a
 rcases I with⟨l,rfl⟩|⟨d,D,rfl,c⟩
 .simp at l
  simp[f266,a,aV a,ax]
  refine⟨⟨.sl (H.length+1) 0 0 1,se,?_,⟨t,y.aJ fun _ _ _ _ h=>nY a (by decide) _ h⟩,A.aJ fun _ _ _ _ h=>nY a (by decide) _ h,B.aJ fun _ _ _ _ h=>nY a (by decide) _ h,C.aJ fun _ _ _ _ h=>nY a (by decide) _ h,.inr ⟨H.length+1,0,?_,?_⟩,j.aJ fun _ _ _ _ h=>nY a (by decide) _ h,d1,?_⟩,?_⟩
  .rw[ba (aV a)];rfl
  .simp[Wk.send,l]
  .rw[aay (by omega),jd]
   simp[Wk.send,l,fu,dX]
  .intro m hm n
   have:=j.lt m n
   simp[rf]at hm
   omega
  .refine Dj a fun m hm=>?_
   simp[eu,rf,aG]at hm|-
   grind
 .have g:d≠b:=fun e=>by subst e;rw[a]at c;cases c
  have P:=bf c
  simp only[aeo]at c
  simp[f266,a,g,aV a,aV c,ax,show w.out.length+1<=maxLen/\(w.out.length+1)*40<=140737488355328 from⟨by unfold maxLen;omega,by omega⟩]
  have f:∀(o p:Ob) (x:List Ob) (m v z:Nat) (r:List (List ab)),z≠13->z≠5\/m≠d->H[m]?=some (.live v z r)->(((H++x).set d o).set b p)[m]?=some (.live v z r):=fun o p x m v z r J K L=>AC a c J K o p L
  refine⟨⟨.sl d (D+1) 0 (w.out.length+1),se,?_,⟨t,y.aJ fun _ _ _ _ h=>f _ _ _ _ _ _ _ (by decide) (.inl (by decide)) h⟩,A.aJ fun _ _ _ _ h=>f _ _ _ _ _ _ _ (by decide) (.inl (by decide)) h,B.aJ fun _ _ _ _ h=>f _ _ _ _ _ _ _ (by decide) (.inl (by decide)) h,C.aJ fun _ _ _ _ h=>f _ _ _ _ _ _ _ (by decide) (.inl (by decide)) h,.inr ⟨d,D+1,?_,?_⟩,j.aJ fun m _ _ hm h=>f _ _ _ _ _ _ _ (by decide) (.inr fun e=>d2 d (by simp[rf]) (by subst e;exact hm)) h,d1,?_⟩,?_⟩
  .rw[ba (by rw[aay g];exact aV a)];rfl
  .simp[Wk.send]
  .rw[aay (ain g),ba (aV c)]
   simp[Wk.send,fu,dX]
  .intro m hm n
   simp[rf]at hm
   exact d2 m (by simp[rf,hm]) n
  .refine AP a c g (by simp[eu,rf]) (fun m hm=>?_) _
   simp[eu,rf,aG]at hm|-
   grind
def P2(h:bZ H b w)(x:aI)(k:Int)(c:w.out.length<=100000):
  ∃a,bB tz (ev tz) 266 [aw b,.agg (ax x),aa k] H=some (.aM [],a)/\bZ a b (w.send x k)/\bq b H a:=by
 have⟨sl,d,f,i,n,se,h⟩:=h
 have⟨a,e,⟨j,l,g⟩,m⟩:=zD h x k c
 exact⟨a,e,⟨sl,d,f,i,j,l,g⟩,m⟩
def IS{f:Nat}{w2:Wk}{sl y A B l se:ab}(h:cF H b w sl y A B l se)(k n:Int)(J:f=117/\w2=w.dM k n\/f=126/\w2=w.ek k n)(C:¬k=0)(Q:w.seen.length<=100000):
  ∃o,bB tz (ev tz) f [aw b,aa k,aa n] H=some (.aM [],o)/\(∃K L,cF o b w2 sl y A B K L)/\bq b H o:=by
 rcases J with⟨rfl,rfl⟩|⟨rfl,rfl⟩
 all_goals
  have⟨a,⟨t,D⟩,E,F,G,p,M,d1,d2⟩:=h
  refine gv (by first|exact func117|exact func126) rfl ?_
  have R:=bf a
  have S:=a
  simp only[bN]at a
  rcases M with⟨q,rfl⟩|⟨d,I,rfl,c⟩
  .simp at q
   simp[f117,f126,a,aV a,aG]
   refine⟨⟨l,.sl (H.length+1) 0 0 1,?_,⟨t,D.aJ fun _ _ _ _ h=>nY a (by decide) _ h⟩,E.aJ fun _ _ _ _ h=>nY a (by decide) _ h,F.aJ fun _ _ _ _ h=>nY a (by decide) _ h,G.aJ fun _ _ _ _ h=>nY a (by decide) _ h,p.aJ fun _ _ _ _ h=>nY a (by decide) _ h,.inr ⟨H.length+1,0,?_,?_⟩,d1,?_⟩,?_⟩
   .rw[ba (aV a)];rfl
   .simp[Wk.dM,Wk.ek,q]
   .rw[aay (by omega),jd]
    simp[C,Wk.dM,Wk.ek,q,fW]
   .intro m hm i
    have:=p.lt m hm
    simp[rf]at i
    omega
   .refine Dj a fun m hm=>?_
    simp[eu,rf,aG]at hm|-
    grind
  .have j:d≠b:=fun e=>by subst e;rw[a]at c;cases c
   have T:=bf c
   simp only[aeo]at c
   simp[f117,f126,a,j,aV a,aV c,aG,show w.seen.length+1<=maxLen/\(w.seen.length+1)*56<=140737488355328 from⟨by unfold maxLen;omega,by omega⟩]
   have g:∀(s u:Ob) (x:List Ob) (m v z:Nat) (r:List (List ab)),z≠13->z≠5\/m≠d->H[m]?=some (.live v z r)->(((H++x).set d s).set b u)[m]?=some (.live v z r):=fun s u x m v z r N O P=>AC a c N O s u P
   refine⟨⟨l,.sl d (I+1) 0 (w.seen.length+1),?_,⟨t,D.aJ fun _ _ _ _ h=>g _ _ _ _ _ _ _ (by decide) (.inl (by decide)) h⟩,E.aJ fun _ _ _ _ h=>g _ _ _ _ _ _ _ (by decide) (.inl (by decide)) h,F.aJ fun _ _ _ _ h=>g _ _ _ _ _ _ _ (by decide) (.inl (by decide)) h,G.aJ fun _ _ _ _ h=>g _ _ _ _ _ _ _ (by decide) (.inl (by decide)) h,p.aJ fun m _ _ hm h=>g _ _ _ _ _ _ _ (by decide) (.inr fun e=>d2 m hm (by subst e;simp[rf])) h,.inr ⟨d,I+1,?_,?_⟩,d1,?_⟩,?_⟩
   .rw[ba (by rw[aay j];exact aV a)];rfl
   .simp[Wk.dM,Wk.ek]
   .rw[aay (ain j),ba (aV c)]
    simp[C,Wk.dM,Wk.ek,fW]
   .intro m hm i
    simp[rf]at i
    exact d2 m hm (by simp[rf,i])
   .refine AP a c j (by simp[eu,rf]) (fun m hm=>?_) _
    simp[eu,rf,aG]at hm|-
    grind
def xX(h:bZ H b w)(k c:Int)(d:¬k=0)(f:w.seen.length<=100000):
  ∃a,bB tz (ev tz) 117 [aw b,aa k,aa c] H=some (.aM [],a)/\bZ a b (w.dM k c)/\bq b H a:=by
 have⟨sl,i,j,l,p,se,h⟩:=h
 have⟨a,e,⟨m,n,g⟩,o⟩:=IS h k c (.inl ⟨rfl,rfl⟩) d f
 exact⟨a,e,⟨sl,i,j,l,m,n,g⟩,o⟩
def FT(h:bZ H b w)(k c:Int)(d:¬k=0)(f:w.seen.length<=100000):
  ∃a,bB tz (ev tz) 126 [aw b,aa k,aa c] H=some (.aM [],a)/\bZ a b (w.ek k c)/\bq b H a:=by
 have⟨sl,i,j,l,p,se,h⟩:=h
 have⟨a,e,⟨m,n,g⟩,o⟩:=IS h k c (.inr ⟨rfl,rfl⟩) d f
 exact⟨a,e,⟨sl,i,j,l,m,n,g⟩,o⟩
end
section
variable{H0 H:List Ob}{b:Nat}{w:Wk}
def yM{H:List Ob}{b:Nat}{w:Wk}(h:bZ H b w)(d:Bool)(e:Int):
  ∃g,bB tz (ev tz) 72 [aw b,aR d,aa e] H=some (aR (decide ((w.need d e).e=0)),g)/\bZ g b (w.need d e)/\bq b H g/\∀m,m≠b->g[m]?=H[m]?:=by
 have⟨sl,i,j,k,l,se,a,⟨t,o⟩,p,q,s,u,A,d1,d2⟩:=h
 refine gv func72 rfl ?_
 have E:=bf a
 have B:=a
 simp only[bN]at a
 by_cases c1:w.e=0
 .cases d with
  |true=>
   have f:w.need true e=w:=by simp[Wk.need]
   rw[f]
   simp[f72,a,c1]
   exact⟨⟨sl,i,j,k,l,se,B,⟨t,o⟩,p,q,s,u,A,d1,d2⟩,bq.refl _ _⟩
  |false=>
   have f:w.need false e=⟨w.n,w.out,w.seen,e⟩:=by simp[Wk.need,c1]
   rw[f]
   simp[f72,a,c1,ba a]
   have c:∀(y:Ob) (m v z:Nat) (r:List (List ab)),z≠13->H[m]?=some (.live v z r)->(H.set b y)[m]?=some (.live v z r):=fun y m v z r C D=>by
    have:=nY (x:=[]) a C y D
    simpa using this
   refine⟨⟨sl,i,j,k,l,se,?_,⟨t,o.aJ fun _ _ _ _ h=>c _ _ _ _ _ (by decide) h⟩,p.aJ fun _ _ _ _ h=>c _ _ _ _ _ (by decide) h,q.aJ fun _ _ _ _ h=>c _ _ _ _ _ (by decide) h,s.aJ fun _ _ _ _ h=>c _ _ _ _ _ (by decide) h,u.aJ fun _ _ _ _ h=>c _ _ _ _ _ (by decide) h,A.aJ fun _ _ _ _ h=>c _ _ _ _ _ (by decide) h,d1,d2⟩,?_,fun m hm=>aay (ain hm)⟩
   .rw[ba a];rfl
   .have:=Dj (x:=[]) a (row':=bN ⟨w.n,w.out,w.seen,e⟩ sl i j k l se) (fun m hm=>by
     simp[eu,rf,bN,aG]at hm|-
     grind)
    simpa[bN]using this
 .have f:w.need d e=w:=by simp[Wk.need,c1]
  rw[f]
  simp[f72,a,c1]
  exact⟨⟨sl,i,j,k,l,se,B,⟨t,o⟩,p,q,s,u,A,d1,d2⟩,bq.refl _ _⟩
def qi(x:Value):rf (.v x)=[]:=rfl
def rm(x:List (List ab)):rf (.aj x)=[]:=rfl
def bq.then{x:List Ob}{row a:List ab}(f0:bq b H0 H)(c:H[b]?=some (ah 13 [row]))(h:∀m∈eu a,m∈eu row\/H0.length<=m):bq b H0 ((H++x).set b (ah 13 [a])):=⟨by have:=f0.1;simp;omega,fun m o d e i=>by
 have⟨j,f⟩:=f0.2 m o d e i;rw[c]at f;refine⟨by rw[aay (ain e)];exact aV j,?_⟩;rw[ba (aV c)];intro k;rcases h m k with g|g
 .exact f g
 .have:=bf d;omega⟩
def cF.Je{sl u l y o se:ab}(h:cF H b w sl u l y o se)(f0:bq b H0 H)(x:List Ob)(a:Wk)(d f g:ab)
  (A:(d=sl/\a.n.dr.ai.af=w.n.dr.ai.af)\/((∀m∈rf d,H0.length<=m)/\∃t,gD (H++x) 8 d (a.n.dr.ai.af.map ax) t))
  (B:(f=u/\a.n.book.aA=w.n.book.aA)\/((∀m∈rf f,H0.length<=m)/\kF (H++x) f a.n.book.aA))
  (O:a.n.known=w.n.known) (C:(g=y/\a.n.asked=w.n.asked)\/(g=ap/\a.n.asked=[])) (P:a.out=w.out) (Q:a.seen=w.seen):
  cF ((H++x).set b (ah 13 [bN a d f l g o se])) b a d f l g o se/\bq b H0 ((H++x).set b (ah 13 [bN a d f l g o se])):=by
 have⟨p,⟨t,F⟩,G,I,J,K,L,d1,d2⟩:=h
 have S:=bf p
 have j:∀(m v z:Nat) (r:List (List ab)),z≠13->H[m]?=some (.live v z r)->((H++x).set b (ah 13 [bN a d f l g o se]))[m]?=some (.live v z r):=fun m v z r q k=>nY p q _ k
 have D:∀(z m v:Nat) (r:List (List ab)),z≠13->(H++x)[m]?=some (.live v z r)->((H++x).set b (ah 13 [bN a d f l g o se]))[m]?=some (.live v z r):=fun z m v r q k=>by
  rw[aay (fun e=>by subst e;rw[aV p]at k;cases k;exact q rfl)];exact k
 have M:∀m∈rf d,m∈rf sl\/H0.length<=m:=by
  rcases A with⟨e,_⟩|⟨e,_⟩
  .rw[e];exact fun m hm=> .inl hm
  .exact fun m hm=> .inr (e m hm)
 have N:∀m∈rf f,m∈rf u\/H0.length<=m:=by
  rcases B with⟨e,_⟩|⟨e,_⟩
  .rw[e];exact fun m hm=> .inl hm
  .exact fun m hm=> .inr (e m hm)
 have E:∀m∈rf g,m∈rf y:=by
  rcases C with⟨e,_⟩|⟨e,_⟩
  .rw[e];exact fun m hm=>hm
  .rw[e];intro m hm;simp[rf]at hm
 refine⟨⟨ba (aV p),?_,?_,?_,?_,?_,?_,fun m q k=>d1 m q (E m k),d2⟩,f0.then p fun m hm=>?_⟩
 .rcases A with⟨i,c⟩|⟨i,R,c⟩
  .have s:gD H 8 d (a.n.dr.ai.af.map ax) t:=by rw[i,c];exact F
   exact⟨t,s.aJ fun _ _ _ _ h=>j _ _ _ _ (by decide) h⟩
  .exact ⟨R,c.aJ fun _ _ _ hm h=>D _ _ _ _ (by decide) h⟩
 .rcases B with⟨i,c⟩|⟨i,c⟩
  .have s:kF H f a.n.book.aA:=by rw[i,c];exact G
   exact s.aJ fun _ _ _ _ h=>j _ _ _ _ (by decide) h
  .exact c.aJ fun _ _ _ hm h=>D _ _ _ _ (by decide) h
 .rw[O];exact I.aJ fun _ _ _ _ h=>j _ _ _ _ (by decide) h
 .rcases C with⟨i,c⟩|⟨i,c⟩
  .have s:kQ H 2 g (a.n.asked.map aW):=by rw[i,c];exact J
   exact s.aJ fun _ _ _ _ h=>j _ _ _ _ (by decide) h
  .rw[i,c];exact .inl ⟨rfl,rfl⟩
 .rw[P];exact K.aJ fun _ _ _ _ h=>j _ _ _ _ (by decide) h
 .rw[Q];exact L.aJ fun _ _ _ _ h=>j _ _ _ _ (by decide) h
 .simp only[eu,bN,ait,ajk,ahl,qi,rm,aG]at hm|-
  have T:=M m
  have U:=N m
  have V:=E m
  clear j D M N E F G I J K L d1 d2 A B C p
  simp at hm|-
  grind
def cF.vO{sl i f j g se:ab}(h:cF H b w sl i f j g se)(f0:bq b H0 H)(x:List Ob)(a:Wk)(c d e:ab)
  (k:(c=sl/\a.n.dr.ai.af=w.n.dr.ai.af)\/((∀m∈rf c,H0.length<=m)/\∃t,gD (H++x) 8 c (a.n.dr.ai.af.map ax) t))
  (l:(d=i/\a.n.book.aA=w.n.book.aA)\/((∀m∈rf d,H0.length<=m)/\kF (H++x) d a.n.book.aA))
  (o:a.n.known=w.n.known) (p:(e=j/\a.n.asked=w.n.asked)\/(e=ap/\a.n.asked=[])) (q:a.out=w.out) (s:a.seen=w.seen):
  bZ ((H++x).set b (ah 13 [bN a c d f e g se])) b a/\bq b H0 ((H++x).set b (ah 13 [bN a c d f e g se])):=
 have r:=h.Je f0 x a c d e k l o p q s
 ⟨⟨_,_,_,_,_,_,r.1⟩,r.2⟩
def cF.wX{sl i f j g se:ab}(h:cF H b w sl i f j g se)(x:List Ob)(a:Wk)(c d e:ab)
  (k:(c=sl/\a.n.dr.ai.af=w.n.dr.ai.af)\/((∀m∈rf c,H.length<=m)/\∃t,gD (H++x) 8 c (a.n.dr.ai.af.map ax) t))
  (l:(d=i/\a.n.book.aA=w.n.book.aA)\/((∀m∈rf d,H.length<=m)/\kF (H++x) d a.n.book.aA))
  (o:a.n.known=w.n.known) (p:(e=j/\a.n.asked=w.n.asked)\/(e=ap/\a.n.asked=[])) (q:a.out=w.out) (r:a.seen=w.seen):
  bZ ((H++x).set b (ah 13 [bN a c d f e g se])) b a/\bq b H ((H++x).set b (ah 13 [bN a c d f e g se])):=
 h.vO (bq.refl b H) x a c d e k l o p q r
def cF.at{sl a c d e se:ab}(h:cF H b w sl a c d e se):bZ H b w:=⟨sl,a,c,d,e,se,h⟩
end
def oF(n:Nd)(a:ab):List ab:=[I n.dr.ai.id,I n.dr.ai.phase,.aj (n.dr.ai.af.map ax),I n.dr.aQ,aG n.dr.need,I n.book.last,.aj (n.book.aA.map aN),.aj (n.known.map aW),aG n.told,a]
def rC(n:Nd)(a:ab):Prop:=a= .aj (n.asked.map aW)
def uM(n:Nd)(a:ab)(h:rC n a):aS tz ay 0 119 [.agg (oF n a)]=some (match n.book.aA with|[]=> .aM [.agg [I 0,.aj [],I 0,I 0],aR false]|s::_=> .aM [.agg (aN s),aR true],[]):=by rw[h];exact NQ n
def aei(n:Nd)(a:ab)(b:rC n a)(h:fm n):aS tz ay 0 67 [.agg (oF n a)]=some (pU n):=by rw[b];exact yO n h
def aas(a b:Nd)(c:ab)(d:rC b c)(h:fm a):aS tz ay 0 130 [.agg (aT a),.agg (oF b c)]=some (aR (decide (a=b)),[]):=by rw[d];exact XI a b h
def gD.view{H:List Ob}{z:Nat}{a:ab}{rows t:List (List ab)}(h:gD H z a rows t)(b:bA rows=true):bV H 6 a=some (.aj rows,[z]):=by obtain⟨d,e,rfl,c⟩:=h;have:(rows++t).take rows.length=rows:=ai2 rfl;simp[c,this,b]
def kQ.view{H:List Ob}{z:Nat}{a:ab}{rows:List (List ab)}(h:kQ H z a rows)(b:bA rows=true):(bV H 6 a=some (ap,[])/\rows=[])\/bV H 6 a=some (.aj rows,[z]):=by
 rcases h with⟨c,rfl⟩|h
 .exact .inl ⟨rfl,c⟩
 .exact .inr (h.view b)
def kF.view{H:List Ob}{a:ab}{l:List bY}(h:kF H a l):bV H 6 a=some (.aj (l.map aN),[])\/bV H 6 a=some (.aj (l.map aN),[4]):=by
 rcases h with rfl|h
 .left;simp[bV,bW]
 .exact .inr (h.view (bW l))
def vu(a:List Nat):Prop:=a=[8,2]\/a=[8,4,2]\/a=[8,2,2]\/a=[8,4,2,2]
def cF.view{H:List Ob}{b:Nat}{w:Wk}{sl g i j p se:ab}(h:cF H b w sl g i j p se):∃k m,dy H [.agg [I w.n.dr.ai.id,I w.n.dr.ai.phase,sl,I w.n.dr.aQ,aG w.n.dr.need,I w.n.book.last,g,i,aG w.n.told,j]]=some ([.agg (oF w.n k)],m)/\rC w.n k/\vu m:=by
 have⟨t,q⟩:=h.hs;have d:=q.view (bL _);have e:=h.hk.view (bS _);have a:=h.dc.view;have c:=h.ha.view (bS _);have vI:∀n:Int,bV H 6 (I n)=some (I n,[]):=fun _=>rfl;have f:∀l:List Int,bV H 6 (.aj (l.map aC))=some (.aj (l.map aC),[]):=fun l=>by simp[bi]
 rcases a with a|a<;>rcases c with⟨c,o⟩|c
 .exact ⟨.aj [],[8,2],by simp[dy,df,eS,d,e,a,c,vI,f,oF,-bV],by rw[rC,o],by simp[vu]⟩
 .exact ⟨_,[8,2,2],by simp[dy,df,eS,d,e,a,c,vI,f,oF,-bV],rfl,by simp[vu]⟩
 .exact ⟨.aj [],[8,4,2],by simp[dy,df,eS,d,e,a,c,vI,f,oF,-bV],by rw[rC,o],by simp[vu]⟩
 .exact ⟨_,[8,4,2,2],by simp[dy,df,eS,d,e,a,c,vI,f,oF,-bV],rfl,by simp[vu]⟩
def qK{H:List Ob}{b:Nat}{w:Wk}{sl d e g j se:ab}(h:cF H b w sl d e g j se){f:FuncId}{r:au}{own:List Ob}(i:tz.md f=0)
  (hp:∀a,rC w.n a->aS tz ay 0 f [.agg (oF w.n a)]=some (r,own)) (k:∀c,vu c->eo false c r own=true):
  aO tz ay f [.agg [I w.n.dr.ai.id,I w.n.dr.ai.phase,sl,I w.n.dr.aQ,aG w.n.dr.need,I w.n.book.last,d,e,aG w.n.told,g]] H=some (eR H.length r,H++own.map (dY H.length)):=by
 have⟨a,c,l,m,o⟩:=h.view
 have p:([au.agg [I w.n.dr.ai.id,I w.n.dr.ai.phase,sl,I w.n.dr.aQ,aG w.n.dr.need,I w.n.book.last,d,e,aG w.n.told,g]].any (eQ tz))=false:=rfl
 rw[aD,p,l]
 simp only[i,aeb,or_false]
 rw[if_neg (by decide),lJ,i,hp a m,jQ]
 exact if_pos (k c o)
def Au{H:List Ob}{b:Nat}{w:Wk}(h:bZ H b w)(hn:fm w.n):
  ∃e,bB tz (ev tz) 118 [aw b] H=some (.aM [],e)/\bZ e b w.di/\bq b H e:=by
 have⟨sl,j,o,k,p,se,h⟩:=h
 refine gv func118 rfl ?_
 have c:=h.hb
 have l:=bf c
 obtain⟨t,q,r,rfl,f⟩:=h.hs
 have s:=bf f
 simp only[bN]at c
 have i:((w.n.dr.ai.af.map ax)++t).take w.n.dr.ai.af.length=w.n.dr.ai.af.map ax:=ai2 (by simp)
 have a:=Vb w.n.dr hn.si (by have:=hn.nd;omega)
 simp only[cV,aG]at a
 by_cases hc:(lu w.n.dr).2=0
 .have g:w.di=w.put {w.n with dr:=(lu w.n.dr).1}:=by simp only[Wk.di,if_pos hc]
  rw[g]
  simp only[iQ,if_pos hc]at a
  have⟨d,m⟩:=ak ((lu w.n.dr).1)
  rw[m]at a|-
  simp[f118,c,f,i,a,aV c,wH,pD]
  have ar:∀x,gD (H++ah 8 (d.ai.af.map ax)::x) 8 (.sl H.length 0 0 d.ai.af.length) (d.ai.af.map ax) []:=fun x=>⟨H.length,0,by simp,by rw[pq];simp⟩
  exact h.wX _ (w.put {w.n with dr:=d}) (.sl H.length 0 0 d.ai.af.length) j k (.inr ⟨by simp[rf],[],ar _⟩) (.inl ⟨rfl,rfl⟩) rfl (.inl ⟨rfl,rfl⟩) rfl rfl
 .have g:w.di=w:=by simp only[Wk.di,if_neg hc]
  rw[g]
  simp only[iQ,if_neg hc]at a
  simp[f118,c,f,i,a,hc]
  exact⟨h.at.snoc,bq.snoc l⟩
def Wk.eY(w:Wk)(a:ci)(e:Int):Wk:=if(w.need (decide (e=0)) e).e=0 then(w.need (decide (e=0)) e).put {(w.need (decide (e=0)) e).n with book:=a}else w.need (decide (e=0)) e
def Aj{g H:List Ob}{b:Nat}{w:Wk}(h:bZ H b w)(f0:bq b g H)(a:ci)(c:ab)(t:kF H c a.aA)(hm:∀m∈rf c,g.length<=m)(e:Int):
  ∃i,bB tz (ev tz) 115 [aw b,.agg [I a.last,c],aa e] H=some (aR (decide ((w.eY a e).e=0)),i)/\bZ i b (w.eY a e)/\bq b g i:=by
 refine gv func115 rfl ?_
 have⟨u,d,w1,o,x⟩:=yM h (decide (e=0)) e
 have y:∃r,H[b]?=some (ah 13 r):=by
  obtain⟨sl,z,A,p,B,se,j,_⟩:=h
  exact⟨_,j⟩
 have C:kF u c a.aA:=by
  have⟨r,j⟩:=y
  refine t.aJ fun m v r _ k=>?_
  rw[x m (fun e=>by subst e;rw[j]at k;cases k)]
  exact k
 unfold Wk.eY
 have⟨v,q⟩:=ak (w.need (decide (e=0)) e)
 rw[q]at d w1
 rw[q]
 have⟨sl,z,A,p,B,se,l⟩:=w1
 have f:=l.hb
 simp only[bN]at f
 by_cases hc:v.e=0
 .rw[if_pos hc]
  simp[hc]at d
  rw[hc]at f
  have s:=l.vO (f0.trans o) [] (v.put {v.n with book:=a}) sl c p (.inl ⟨rfl,rfl⟩) (.inr ⟨hm,by rw[aeo];exact C⟩) rfl (.inl ⟨rfl,rfl⟩) rfl rfl
  simp only[bN,Wk.put,aeo,hc,aG]at s
  simp[f115,d,f,ba f,Wk.put,hc]
  exact s
 .rw[if_neg hc]
  simp[hc]at d
  simp[f115,d,f,hc]
  exact⟨l.at,f0.trans o⟩
def Wk.sj(w:Wk)(a:Int)(m:cU):Wk:=if(w.need (decide ((gW w.n.dr a m).2=0)) 187).e=0 then(w.need (decide ((gW w.n.dr a m).2=0)) 187).put {w.n with dr:=(gW w.n.dr a m).1}else w.need (decide ((gW w.n.dr a m).2=0)) 187
def SS{H:List Ob}{b:Nat}{w:Wk}(h:bZ H b w)(hn:fm w.n)(a:Int)(m:cU)(j:w.e=0):
  ∃k,bB tz (ev tz) 226 [aw b,aa a,.agg (br m)] H=some (.aM [],k)/\bZ k b (w.sj a m)/\bq b H k:=by
 refine gv func226 rfl ?_
 have r:=h
 have⟨sl,s,D,u,E,se,h⟩:=h
 have i:=h.hb
 have v:=bf i
 obtain⟨t,L,M,rfl,y⟩:=h.hs
 simp only[bN]at i
 have z:((w.n.dr.ai.af.map ax)++t).take w.n.dr.ai.af.length=w.n.dr.ai.af.map ax:=ai2 (by simp)
 have f:=Y8 w.n.dr a m hn.si (by have:=hn.nd;omega)
 simp only[cV,br,aG]at f
 unfold Wk.sj
 by_cases hc:(gW w.n.dr a m).2=0
 .simp only[iQ,if_pos hc]at f
  have l:w.need (decide ((gW w.n.dr a m).2=0)) 187=w:=by simp[Wk.need,hc]
  rw[l,if_pos j]
  have⟨d,F⟩:=ak ((gW w.n.dr a m).1)
  rw[F]at f|-
  simp only[aG]at f
  have⟨G,g,w1,o,p⟩:=yM (r.snoc (x:=[Ob.live 1 5 [[I d.ai.id,I d.ai.phase,ab.sl (H.length+1) 0 0 d.ai.af.length,I d.aQ,ab.aj (d.need.map aC)]],Ob.live 0 8 (d.ai.af.map ax)])) true 187
  have J:w.need true 187=w:=by simp[Wk.need]
  rw[J]at g w1
  simp[j]at g
  have c1:=p (H.length+1) (by omega)
  rw[jd]at c1
  simp at c1
  have q:=p H.length (by omega)
  rw[pq]at q
  simp at q
  have⟨sl,s,D,u,E,se,A⟩:=w1
  have B:=A.hb
  have C:=A.vO ((bq.snoc v).trans o) [] (w.put {w.n with dr:=d}) (.sl (H.length+1) 0 0 d.ai.af.length) s u (.inr ⟨by simp[rf],[],H.length+1,0,by simp[Wk.put],by rw[aeo,c1];simp[Wk.put]⟩) (.inl ⟨rfl,rfl⟩) rfl (.inl ⟨rfl,rfl⟩) rfl rfl
  simp only[bN]at B
  simp only[bN,Wk.put,aeo,aG]at C
  simp[f226,br,aV y,z,f,aV i,wH,pD,g,q,B,Wk.put,mT,gV,iT]
  exact C
 .simp only[iQ,if_neg hc]at f
  have l:w.need (decide ((gW w.n.dr a m).2=0)) 187=w.need false 187:=by simp[hc]
  have ev:(w.need false 187).e=187:=by simp[Wk.need,j]
  rw[l,if_neg (by rw[ev];decide)]
  have⟨c,K⟩:=ak ((gW w.n.dr a m).2)
  rw[K]at f hc
  have⟨G,g,w1,o,p⟩:=yM (r.snoc (x:=[Ob.live 1 5 [[I 0,I 0,ab.aj [],I 0,ab.aj []]]])) false 187
  rw[ev]at g
  simp at g
  simp[f226,br,aV y,z,f,aV i,g,hc,mT,gV,iT]
  exact⟨w1,(bq.snoc v).trans o⟩
structure S9(p:aI->Bool)(l:List aI)(t:List (List ab))(h ver:Nat)(H:List Ob)(k:Nat)(G:List Ob):Prop where
 r:G[h]?=some (.live ver 8 ((eP p l k).map ax++t))
 b:mB h H G
 k:k<=l.length
def adv{l:List aI}{t:List (List ab)}{q:Int}{h a:Nat}{H:List Ob}(hm:l.length<=100000)(s:H[h]?=some (.live a 8 (l.map ax++t))):
  ∃d z,bB tz (ev tz) 278 [bd h a 0 l.length,.c (.bG 279 [.aK [[I q]] 0 0])] H=some (bd h a 0 (l.filter fun x=>!decide (x.peer=q)).length,d)/\d[h]?=some (.live a 8 ((l.filter fun x=>!decide (x.peer=q)).map ax++z))/\mB h H d:=by
 have P:=cG (C:=tz) (f:=278) (args:=[bd h a 0 l.length,.c (.bG 279 [.aK [[I q]] 0 0])]) (H:=H) (fun r d=>r=bd h a 0 (l.filter fun x=>!decide (x.peer=q)).length/\∃z,d[h]?=some (.live a 8 ((l.filter fun x=>!decide (x.peer=q)).map ax++z))/\mB h H d) func278 rfl ?_
 .obtain ⟨r,d,Q,rfl,rows,u⟩:=P
  exact⟨d,rows,Q,u⟩
 have lh:=bf s
 have v:=yH (g:=279) (caps:=[.aK [[I q]] 0 0]) l (by unfold maxLen;omega) (fun x=>decide (x.peer=q)) (fun x _=>by
  have:=Q3 x q
  simp[ax]at this
  simp[ax,this])
 cases A:l.find? (fun x=>decide (x.peer=q))with
 |none=>
  rw[qG 0 A]at v
  have R:l.filter (fun x=>!decide (x.peer=q))=l:=by
   rw[ajn]
   intro x S
   have:=alP.1 A x S
   simpa using this
  rw[R]
  simp[f278,s,v]
  exact mB.refl _ _
 |some x=>
  have⟨j,u,⟨J,B⟩,D⟩:=Ek 0 A
  rw[aiQ]at u
  rw[u]at v
  have T:ads.wrap ((j:Int)+1)=((j+1:Nat):Int):=cr (by omega)
  have⟨p,hp⟩:=ak (fun x=>decide (x.peer=q):aI->Bool)
  have K:∀x:aI,decide (x.peer=q)=p x:=fun x=>by rw[<-hp]
  simp only[K]at B D|-
  have U:fJ p l (j+1)=j:=by
   rw[vZ p l j J,if_pos B]
   unfold fJ
   rw[D];simp;omega
  have d0:eP p l (j+1)=l:=by
   rw[yX p l j J B]
   unfold eP
   rw[D,aiV,ajW (by omega),ajE]
  simp[f278,s,v,T]
  refine ia (fun k:Nat=>[(5,aa (fJ p l k)),(6,aa k),(0,bd h a 0 l.length),(1,.c (.bG 279 [.aK [[I q]] 0 0]))]) (fun k G=>S9 p l t h a H k G) (fun k=>l.length-k) ?_ (j+1) (by simp[U]) ⟨by rw[d0];exact s,mB.refl _ _,by omega⟩ fun _=>rfl
  rintro k ad G⟨w,E,F,L,_⟩o
  have m:=o.r
  have V:=KO p l k
  have nk:=Qd p l k
  by_cases e:k<l.length
  .have M:ads.wrap ((k:Int)+1)=((k+1:Nat):Int):=cr (by omega)
   have W:ads.wrap ((fJ p l k:Int)+1)=((fJ p l k+1:Nat):Int):=cr (by omega)
   have t1:=Rv p l k e
   have⟨t2,t3⟩:=aa3.1 t1
   have t4:fJ p l k< (eP p l k).length:=by omega
   have t5:fJ p l k<l.length:=by omega
   have t6:k< (eP p l k).length+t.length:=by omega
   have t7:fJ p l k< (eP p l k).length+t.length:=by omega
   have N:((eP p l k).map ax++t)[k]?=some (ax l[k]):=by rw[aaK (by simp;omega),adn,t1];rfl
   have i:=Q3 l[k] q
   rw[K]at i
   cases n:p l[k]with
   |true=>
    rw[n]at i
    simp only[ax]at i
    simp[-getElem?_pos,-aae,underlying59,w,E,F,L,e,M,m,t6,N,i,ax]
    exact⟨k+1,by omega,⟨by rw[vZ p l k e,n];simp,by omega⟩,by rw[yX p l k e n];exact aV m,o.b.snoc _,by omega⟩
   |false=>
    rw[n]at i
    simp only[ax]at i
    have O:∀x,(G++x)[h]?=_:=fun x=>aV m
    obtain⟨y,X⟩:∃y,(eP p l k)[fJ p l k]?=some y:=⟨_,aae t4⟩
    have Y:((eP p l k).map ax++t)[fJ p l k]?=some (ax y):=by rw[aaK (by simp;omega),adn,X];rfl
    simp[-getElem?_pos,-aae,underlying59,w,E,F,L,e,M,W,m,O,t5,t6,t7,N,Y,i,ax]
    refine⟨k+1,by omega,⟨by rw[vZ p l k e,n];simp,by omega⟩,?_,(o.b.snoc _).set _,by omega⟩
    have Z:((eP p l k).map ax++t).set (fJ p l k) (ax l[k])=((eP p l k).map ax).set (fJ p l k) (ax l[k])++t:=by
     rw[List.set_append,if_pos (by simp;omega)]
    rw[ba (O _), <-MD p l k e n,aix]
    exact congrArg (fun r=>some (Ob.live a 8 r)) Z
  .obtain rfl:k=l.length:=by have:=o.k;omega
   have e1:fJ p l l.length=(l.filter fun x=>!p x).length:=by simp[fJ]
   have e2:eP p l l.length=l.filter (fun x=>!p x)++l.drop (l.filter fun x=>!p x).length:=by simp[eP]
   have e3:=ah2 (fun x=>!p x) l
   simp only[e1]at w
   have gs:∀y,(G.set h y)[h]?=some y:=fun y=>ba m
   simp[underlying59,w,E,F,m,V,e3,gs,rJ,dt]
   have e4:((eP p l l.length).map ax++t).take (l.filter fun x=>!p x).length=(l.filter fun x=>!p x).map ax:=by
    rw[e2,agA,aio,ai2 (by simp)]
   rw[e4]
   exact⟨⟨_,rfl⟩,o.b.set _⟩
def Wk.drop(w:Wk)(p:Int):Wk:=w.put (w.n.eK (nP p w.n.af))
def NF{H:List Ob}{b:Nat}{w:Wk}(h:bZ H b w)(hn:w.n.dr.ai.af.length<=100000)(p:Int):
  ∃k,bB tz (ev tz) 228 [aw b,aa p] H=some (.aM [],k)/\bZ k b (w.drop p)/\bq b H k:=by
 refine gv func228 rfl ?_
 have⟨sl,E,I,J,K,se,h⟩:=h
 have a:=h.hb
 have N:=bf a
 obtain⟨t,f,A,rfl,g⟩:=h.hs
 have B:b≠f:=fun e=>by subst e;rw[a]at g;cases g
 have⟨G,L,C,D,i⟩:=adv (q:=p) hn g
 have⟨F,l⟩:=ak (w.n.dr.ai.af.filter (fun x=>!decide (x.peer=p)))
 rw[l]at C D
 have j:=i.2 b _ a B
 simp only[bN]at a j
 have d:∀(y:Ob) (m v z:Nat) (r:List (List ab)),z≠13->z≠8->H[m]?=some (.live v z r)->(G.set b y)[m]?=some (.live v z r):=fun y m v z r s u c=>by
  have hm:m≠f:=fun e=>by subst e;rw[g]at c;cases c;exact u rfl
  have M:b≠m:=fun e=>by subst e;rw[a]at c;cases c;exact s rfl
  rw[aay M]
  exact i.2 m _ c hm
 simp[f228,a,C,j]
 refine⟨⟨.sl f A 0 F.length,E,I,J,K,se,?_,⟨L,f,A,?_,?_⟩,h.dc.aJ fun _ _ _ _ h=>d _ _ _ _ _ (by decide) (by decide) h,h.hk.aJ fun _ _ _ _ h=>d _ _ _ _ _ (by decide) (by decide) h,h.ha.aJ fun _ _ _ _ h=>d _ _ _ _ _ (by decide) (by decide) h,h.ho.aJ fun _ _ _ _ h=>d _ _ _ _ _ (by decide) (by decide) h,h.he.aJ fun _ _ _ _ h=>d _ _ _ _ _ (by decide) (by decide) h,h.d1,h.d2⟩,?_⟩
 .rw[ba j];rfl
 .simp[Wk.drop,Wk.put,Nd.eK,nP,Nd.af,l]
 .rw[aay B,D]
  simp[Wk.drop,Wk.put,Nd.eK,nP,Nd.af,l]
 .refine bq.bJ a (ba j) (by have:=i.1;simpa using this) (fun m hm=>?_) (fun m o s u c=>?_)
  .simp[eu,rf]at hm|-
   grind
  .rw[aay (ain u)]
   exact i.2 m o s (fun e=>c (by subst e;simp[eu,rf]))
section
def wrap_u64{n:Int}(a:0<=n)(b:n<18446744073709551616):aiS.wrap n=n:=by have c:(2:Int) ^ aiS.bits=18446744073709551616:=rfl;have d:aiS.signed=false:=rfl;unfold IntKind.wrap;simp only[c,d,akX,aeb,if_false];exact alW a b
def Yk{i j:Nat}(h:i+j<9223372036854775808):ads.wrap ((aiS.wrap ((i:Int)+(j:Int))).fdiv (2 ^ min 1 aiS.bits))=(((i+j) / 2:Nat):Int):=by
 have e:(2:Int) ^ min 1 aiS.bits=2:=rfl;rw[wrap_u64 (by omega) (by omega),e,Int.fdiv_eq_ediv_of_nonneg _ (by decide)];have:((i:Int)+(j:Int)) / 2=(((i+j) / 2:Nat):Int):=by omega
 rw[this,wrap_i64 (by omega) (by omega)]
def abb(x:aI)(p:Int)(b: -1000000<=x.peer)(c:x.peer<=1000000)(d: -1000000<=p)(e:p<=1000000):aS tz ay 0 123 [.agg (ax x),aa p]=some (aa (x.peer-p),[]):=by refine be func123 rfl ?_;have a:ads.wrap (x.peer-p)=x.peer-p:=wrap_i64 (by omega) (by omega);simp[f123,ax,a]
variable{α:Type}{key:α->Int}{row:α->List ab}
def fL(key:α->Int)(p:Int):List α->Nat
 |[]=>0
 |y::r=>if key y<p then fL key p r+1 else 0
def Az(key:α->Int)(p:Int):∀l:List α,fL key p l<=l.length
 |[]=>adt _
 |y::r=>by
  unfold fL
  have:=Az key p r
  split<;>simp only[ahP]<;>omega
def P4{p:Int}:∀ {l:List α} (k:Nat) (a:k<l.length),l.Pairwise (fun x y=>key x<key y)->(key l[k]<p↔k<fL key p l)
 |[],k,a,_=>by simp at a
 |y::r,k,a,h=>by
  have hp:=af7.1 h
  unfold fL
  cases k with
  |zero=>
   simp only[List.getElem_cons_zero]
   split<;>rename_i hc<;>simp[hc]
  |succ k=>
   simp only[List.getElem_cons_succ]
   have b:k<r.length:=by simpa using a
   have c:=P4 (p:=p) k b hp.2
   split
   .rw[c];omega
   .rename_i hc
    have:=hp.1 r[k] (air b)
    constructor
    .intro h;omega
    .intro h;omega
def SE(x:aI):∀l:List aI,fR x l=l.take (fL aI.peer x.peer l)++x::l.drop (fL aI.peer x.peer l)
 |[]=>rfl
 |y::r=>by
  unfold fR fL
  by_cases h:y.peer>=x.peer
  .have a:¬y.peer<x.peer:=by omega
   simp[h,a]
  .have a:y.peer<x.peer:=by omega
   simp[h,a,SE x r]
def RH{f g n:Nat}(J:(f,g,n)∈ [(122,123,8),(198,199,2)])(b:∀x,(row x).length=n)(K:∀x p H,-1000000<=key x->key x<=1000000-> -1000000<=p->p<=1000000->aO tz ay g [.agg (row x),aa p] H=some (aa (key x-p),H))(l:List α)(p:Int)(hm:l.length<=1000000)(Q:l.Pairwise (fun x y=>key x<key y))(L:∀x∈l,-1000000<=key x/\key x<=1000000)(M: -1000000<=p)(N:p<=1000000):
  aS tz ay 0 f [bh (l.map row),aa p,.c (.bG g [])]=some (.aM [aa (fL key p l),aR (decide (fL key p l<l.length)&&decide ((l[fL key p l]?.map key)=some p))],[]):=by
 simp only[ae3,aca,aiP,or_false]at J
 have⟨u,R⟩:=ak (fL key p l)
 have S:=Az key p l
 have O:=fun k d=>P4 (key:=key) (p:=p) (l:=l) k d Q
 rw[R]at S O|-
 have⟨v,w⟩:=ak (au.c (.bG g []))
 rcases J with⟨rfl,rfl,rfl⟩|⟨rfl,rfl,rfl⟩
 all_goals
  refine be (by first|exact func122|exact func198) rfl ?_
  simp[-aD,f122,f198,underlying59,underlying68]
  refine ia (fun q:Nat×Nat=>[(9,aa q.1),(10,aa q.2),(8,aa l.length),(0,bh (l.map row)),(1,aa p),(2,v)]) (fun q _=>q.1<=u/\u<=q.2/\q.2<=l.length) (fun q=>q.2-q.1) ?_ (0,l.length) (by simp[<-w]) (by simp;omega) fun _=>rfl
  rintro⟨i,j⟩e H⟨o,r,s,z,A,B,_⟩⟨T,U,V⟩
  simp only at o r s z A B T U V
  by_cases d:i<j
  .have P:ads.wrap ((i:Int)+(j:Int))=((i+j:Nat):Int):=by rw[wrap_i64 (by omega) (by omega)];rfl
   have⟨h,W⟩:=ak ((i+j) / 2)
   have C:h<l.length:=by omega
   have⟨x,a⟩:=ak l[h]
   have t:=L x (by rw[<-a];exact air C)
   have D:=K x p H t.1 t.2 M N
   have F:=O h C
   rw[a]at F
   have m:=b x
   have E:=ach (aj3 m)
   have G:=Yk (i:=i) (j:=j) (by omega)
   rw[W]at G
   have X:ads.wrap ((h:Int)+1)=((h+1:Nat):Int):=cr (by omega)
   by_cases hc:key x<p
   .have I:key x-p<0:=by omega
    have b:=F.1 hc
    simp[-aD,o,r,s,z,A,B, <-w,d,P,G,C,a,m,E,D,I,X]
    exact⟨h+1,j,by omega,by simp,by omega,by omega,by omega⟩
   .have I:¬key x-p<0:=by omega
    have b:¬h<u:=fun b=>hc (F.2 b)
    simp[-aD,o,r,s,z,A,B, <-w,d,P,G,C,a,m,E,D,I]
    exact⟨i,h,by omega,by simp,by omega,by omega,by omega⟩
  .obtain rfl:i=u:=by omega
   by_cases hn:i<l.length
   .have ⟨x,a⟩:=ak l[i]
    have t:=L x (by rw[<-a];exact air hn)
    have D:=K x p H t.1 t.2 M N
    have Z:l[i]?=some x:=by rw[aae hn,a]
    have m:=b x
    have E:=ach (aj3 m)
    have Y:decide (key x-p=0)=decide (key x=p):=by
     by_cases h:key x=p
     .have:key x-p=0:=by omega
      simp[h]
     .have:¬key x-p=0:=by omega
      simp[h,this]
    simp[-aD,o,r,s,z,A,B, <-w,d,hn,a,m,E,D,Y]
   .simp[-aD,o,r,s,d,hn]
def WS:=RH (key:=aI.peer) (row:=ax) (f:=122) (g:=123) (n:=8) (by simp) (fun _=>rfl) fun x p H a b c d=>by have h:=abb x p a b c d;simp[ax]at h;simp[ax,h]
end
def Vt(x:cu)(p:Int)(b: -1000000<=x.peer)(c:x.peer<=1000000)(d: -1000000<=p)(e:p<=1000000):aS tz ay 0 199 [.agg (aW x),aa p]=some (aa (x.peer-p),[]):=by refine be func199 rfl ?_;have a:ads.wrap (x.peer-p)=x.peer-p:=wrap_i64 (by omega) (by omega);simp[f199,aW,a]
def adx:=RH (key:=cu.peer) (row:=aW) (f:=198) (g:=199) (n:=2) (by simp) (fun _=>rfl) fun x p H a b c d=>by have h:=Vt x p a b c d;simp[aW]at h;simp[aW,h]
def nS(p:Int)(l:List cu):Bool:=decide (fL cu.peer p l<l.length)&&decide ((l[fL cu.peer p l]?.map (·.peer))=some p)
def L5(p e:Int):∀l:List cu,fV p e l=if nS p l=true then l.set (fL cu.peer p l) ⟨p,e⟩else l.take (fL cu.peer p l)++⟨p,e⟩::l.drop (fL cu.peer p l)
 |[]=>rfl
 |y::r=>by
  have d:=L5 p e r
  unfold fV
  by_cases h:y.peer=p
  .have a:fL cu.peer p (y::r)=0:=by simp[fL,h]
   have b:nS p (y::r)=true:=by simp[nS,a,h]
   rw[if_pos h,b,a];rfl
  .by_cases c:y.peer>p
   .have a:fL cu.peer p (y::r)=0:=by
     have:¬y.peer<p:=by omega
     simp[fL,this]
    have b:nS p (y::r)=false:=by simp[nS,a,h]
    rw[if_neg h,if_pos c,b,a];rfl
   .have f:y.peer<p:=by omega
    have a:fL cu.peer p (y::r)=fL cu.peer p r+1:=by simp[fL,f]
    have b:nS p (y::r)=nS p r:=by simp[nS,a]
    rw[if_neg h,if_neg c,b,a,d]
    cases nS p r<;>simp
section
variable{H:List Ob}
def M6:tz.dH 124=lS 8:=by kernel_rfl
def ade:tz.dH 200=lS 2:=by kernel_rfl
def Uz{h ver h2 ver2 k:Nat}{l:List aI}{t:List (List ab)}{x:aI}(a:H[h]?=some (.live ver 8 (l.map ax++t)))(b:H[h2]?=some (.live ver2 8 [ax x]))(j:h≠h2)(q:k<=l.length)(c:l.length<=1000000):
  ∃v m D,bB tz (ev tz) 124 [bd h ver 0 l.length,aa k,bd h2 ver2 0 1] H=some (bd h v 0 (l.length+1),H.set h (.live v 8 ((l.take k++x::l.drop k).map ax++m))++D):=by
 have d:((k:Int)<=l.length):=by omega
 have e:(l.map ax++t).take l.length=l.map ax:=ai2 (by simp)
 have f:(ax x).length=8:=rfl
 have g:((l.map ax).all fun r=>ajt r.length 8)=true:=by simp[ax]
 have i:h.beq h2=false:=by
  cases n:h.beq h2 with
  |false=>rfl
  |true=>exact absurd (ajs n) j
 rcases t with _|⟨y,t⟩
 .refine ⟨ver+1,[],[.dead],?_⟩
  rw[iw Bi,M6]
  simp only[aeo]at a e|-
  simp[lS,a,b,d,i,kK c,f,g]
 .refine ⟨ver,t,[],?_⟩
  rw[iw Bi,M6]
  have o:(l.map ax++y::t).take k=(l.map ax).take k:=aj6 (by simp;omega)
  have p:(l.map ax++y::t).drop (l.length+1)=t:=by
   have:l.length+1=(l.map ax).length+1:=by simp
   rw[this,List.drop_append]
   simp
  simp[lS,a,b,d,i,kK c,f,g,e,o,p]
def Xr{h ver h2 ver2 k:Nat}{l:List cu}{x:cu}(a:H[h]?=some (.live ver 2 (l.map aW)))(b:H[h2]?=some (.live ver2 2 [aW x]))(c:h≠h2)(m:k<=l.length)(d:l.length<=1000000):
  bB tz (ev tz) 200 [bd h ver 0 l.length,aa k,bd h2 ver2 0 1] H=some (bd h (ver+1) 0 (l.length+1),H.set h (.live (ver+1) 2 ((l.take k++x::l.drop k).map aW))++[.dead]):=by
 have e:((k:Int)<=l.length):=by omega
 have f:(aW x).length=2:=rfl
 have g:((l.map aW).all fun r=>ajt r.length 2)=true:=by simp[aW]
 have i:h.beq h2=false:=by
  cases j:h.beq h2 with
  |false=>rfl
  |true=>exact absurd (ajs j) c
 rw[iw NW,ade]
 simp[lS,a,b,e,i,kK d,f,g]
def Wk.uC(w:Wk)(p e:Int):Wk:=w.put {w.n with known:=fV p e w.n.known}
def cF.known{H:List Ob}{b:Nat}{w:Wk}{sl d f g se:ab}{a u n:Nat}(h:cF H b w sl d (.sl a u 0 n) f g se)(x:List Ob)(c:Nat)(L:List cu):
  cF (((H++x).set a (.live c 2 (L.map aW))).set b (ah 13 [bN (w.put {w.n with known:=L}) sl d (.sl a c 0 L.length) f g se])) b (w.put {w.n with known:=L}) sl d (.sl a c 0 L.length) f g se/\
  bq b H (((H++x).set a (.live c 2 (L.map aW))).set b (ah 13 [bN (w.put {w.n with known:=L}) sl d (.sl a c 0 L.length) f g se])):=by
 have⟨i,⟨t,A⟩,B,C,D,E,F,d1,d2⟩:=h
 have J:=bf i
 have⟨K,M,y,j⟩:=C
 simp only[ab.sl.injEq]at y
 obtain⟨rfl,rfl,_,rfl⟩:=y
 have l:a≠b:=fun e=>by subst e;rw[i]at j;cases j
 have k:∀(o p:Ob) (m v z:Nat) (r:List (List ab)),z≠13->z≠2\/m≠a->H[m]?=some (.live v z r)->(((H++x).set a o).set b p)[m]?=some (.live v z r):=fun o p m v z r q s G=>AC i j q s o p G
 have I:((H++x).set a (.live c 2 (L.map aW)))[b]?=some (ah 13 [bN w sl d (.sl a u 0 (w.n.known.map aW).length) f g se]):=by rw[aay l];exact aV i
 refine⟨⟨ba I,⟨t,A.aJ fun _ _ _ _ h=>k _ _ _ _ _ _ (by decide) (.inl (by decide)) h⟩,B.aJ fun _ _ _ _ h=>k _ _ _ _ _ _ (by decide) (.inl (by decide)) h,⟨a,c,by simp[Wk.put],?_⟩,D.aJ fun m _ _ hm h=>k _ _ _ _ _ _ (by decide) (.inr fun e=>d1 a (by simp[rf]) (by subst e;exact hm)) h,E.aJ fun _ _ _ _ h=>k _ _ _ _ _ _ (by decide) (.inl (by decide)) h,F.aJ fun _ _ _ _ h=>k _ _ _ _ _ _ (by decide) (.inl (by decide)) h,fun m q s=>d1 m (by simpa[rf]using q) s,d2⟩,?_⟩
 .rw[aay (ain l),ba (aV j)]
  simp[Wk.put]
 .refine AP i j l (by simp[eu,bN,rf]) (fun m hm=>?_) _
  simp[eu,bN,rf,aG]at hm|-
  grind
def lP{a:Type}{l:List a}{n:Nat}{x:a}(h:l[n]?=some x):l.set n x=l:=by
 apply ajr;intro m;by_cases hm:n=m
 .subst hm;rw[ba h,h]
 .rw[aay hm]
structure wG(l:List cu):Prop where
 s:l.Pairwise fun x y=>x.peer<y.peer
 b:∀x∈l,-1000000<=x.peer/\x.peer<=1000000
 m:l.length<=100000
def aap{b:Nat}{w:Wk}{sl C R D E se:ab}(h:cF H b w sl C R D E se)(z:wG w.n.known)(p a:Int)(S: -1000000<=p)(T:p<=1000000):
  ∃F,bB tz (ev tz) 125 [aw b,aa p,aa a] H=some (.aM [],F)/\(∃U,cF F b (w.uC p a) sl C U D E se)/\bq b H F:=by
 refine gv func125 rfl ?_
 have q:=h.hb
 have lb:=bf q
 obtain⟨c,d,rfl,f⟩:=h.hk
 have lh:=bf f
 have A:c≠b:=fun e=>by subst e;rw[q]at f;cases f
 rw[aeo]at f
 simp only[bN]at q
 have t:=adx w.n.known p (by have:=z.m;omega) z.s z.b S T
 have G:=Az cu.peer p w.n.known
 have j:=L5 p a w.n.known
 have O:=z.m
 have V:(decide (fL cu.peer p w.n.known<w.n.known.length)&&decide ((w.n.known[fL cu.peer p w.n.known]?.map (·.peer))=some p))=nS p w.n.known:=rfl
 rw[V]at t
 have⟨r,J⟩:=ak (fL cu.peer p w.n.known)
 have⟨l,g⟩:=ak w.n.known
 cases v:nS p w.n.known with
 |true=>
  rw[v]at j t
  simp only[nS,aa2,decide_eq_true_eq]at v
  rw[J,g]at v j t
  rw[g]at f G O
  have⟨o,P⟩:=v
  have f3:l[r].peer=p:=by rw[aae o]at P;simpa using P
  have f4:(l.map aW)[r]?=some [I l[r].peer,I l[r].aP]:=by rw[adn,aae o];rfl
  simp[-getElem?_pos,-aae,f125,q,g,f,t,bS,o,f4]
  have f5:(l.map aW).set r [I l[r].peer,I a]=(fV p a l).map aW:=by
   rw[j,if_pos rfl,aix,f3];rfl
  rw[f5]
  have u:=h.known [] d (fV p a l)
  have K:(fV p a l).length=l.length:=by rw[j,if_pos rfl];simp
  have L:w.uC p a=w.put {w.n with known:=fV p a l}:=by rw[<-g];rfl
  rw[L]
  have W:(H.set c (.live d 2 ((fV p a l).map aW)))[b]?=some (ah 13 [bN (w.put {w.n with known:=fV p a l}) sl C (.sl c d 0 (fV p a l).length) D E se]):=by
   rw[aay A,q,K,g]
   simp[bN,Wk.put]
  rw[aeo,lP W]at u
  exact⟨⟨_,u.1⟩,u.2⟩
 |false=>
  rw[v]at j t
  rw[J,g]at j t
  rw[g]at f O
  rw[J,g]at G
  have o:=Xr (x:=⟨p,0⟩) (h:=c) (ver:=d) (h2:=H.length) (ver2:=0) (k:=r) (l:=l) (H:=H++[ah 2 [[I p,I 0]]]) (aV f) (by rw[pq];rfl) (by omega) G (by omega)
  have⟨i,B⟩:=ak (l.take r++(⟨p,0⟩:cu)::l.drop r)
  rw[B]at o
  have X:(H++[Ob.live 0 2 [[I p,I 0]]]).set c (.live (d+1) 2 (i.map aW))++[.dead]=(H++[Ob.live 0 2 [[I p,I 0]],.dead]).set c (.live (d+1) 2 (i.map aW)):=by
   rw[<-ajT _ _ (by simp;omega),aio];rfl
  rw[X]at o
  have Y:i.length=l.length+1:=by rw[<-B];simp;omega
  have Z:(i.map aW)[r]?=some [I p,I 0]:=by
   rw[adn, <-B,ad8 (by simp;omega)]
   have:r-(l.take r).length=0:=by simp;omega
   rw[this];rfl
  have K:(fV p a l).length=l.length+1:=by rw[j];simp;omega
  have ad:(i.map aW).set r [I p,I a]=(fV p a l).map aW:=by
   have e1:i.set r ⟨p,a⟩=fV p a l:=by
    rw[j, <-B,if_neg (by decide),List.set_append,if_neg (by simp;omega)]
    have:r-(l.take r).length=0:=by simp;omega
    rw[this];rfl
   rw[<-e1,aix];rfl
  have M:((H++[Ob.live 0 2 [[I p,I 0]],.dead]).set c (.live (d+1) 2 (i.map aW)))[b]?=_:=(aay A).trans (aV q)
  have Q:((H++[Ob.live 0 2 [[I p,I 0]],.dead]).set c (.live (d+1) 2 (i.map aW)))[c]?=_:=ba (aV f)
  have⟨ae,N⟩:=ak ((H++[Ob.live 0 2 [[I p,I 0]],.dead]).set c (.live (d+1) 2 (i.map aW)))
  rw[N]at M Q
  have af:∀y,(ae.set b y)[c]?=_:=fun y=>(aay (ain A)).trans Q
  have ag:r<l.length+1:=by omega
  have ai:(r:Int)< (l.length:Int)+1:=by omega
  rw[N]at o
  have u:=h.known [ah 2 [[I p,I 0]],.dead] (d+1) (fV p a l)
  simp[-getElem?_pos,-aae,f125,q,g,f,t,bS,o,M,ba M,af,Z,ad,Y,ag,ai]
  have L:w.uC p a=w.put {w.n with known:=fV p a l}:=by rw[<-g];rfl
  rw[L, <-N,List.set_comm _ _ (ain A),ajB]
  rw[K]at u
  exact⟨⟨_,u.1⟩,u.2⟩
end
section
variable{P:Program}{f:FuncId}{H H':List Ob}{r:au}
def xK{args:List au}(z:Nat)(h:Call P f args [] (.c ap) []):Call P f args [] (bd 0 0 0 0) [ah z []]:=by
 refine⟨h.1,fun i j n p=>(h.2 i j n p).mono fun e A q=>?_⟩;obtain⟨y,Γ',rfl,rfl,a,d,hc⟩:=q;obtain⟨rfl,_⟩:=hc;have r:Γ'.hs=[]:=ae4 (by have:=d.len;simpa using this.symm);have B:i.hs=[]:=ae4 (by have:=j.len;simpa using this.symm);have k:Γ'.Le {Γ' with hs:=[(⟨none,0,0,0⟩,0)]}:=⟨fun _ _ h=>h,fun _ _ _=>rfl,fun h s C l=>by rw[r]at l;simp at l⟩;refine⟨_,{Γ' with hs:=[(⟨none,0,0,0⟩,0)]},rfl,rfl,⟨a.le.trans k,a.os,a.tape,a.output,a.size,a.frame,a.mu,a.kS⟩,⟨rfl,fun h o g=>?_,fun h m v D o E s H b t u _ _ I J K L=>?_,d.F,d.X,d.G.le k⟩,?_⟩
 .cases h with
  |zero=>simp at g;subst g;exact⟨⟨none,0,0,0⟩,rfl,akb _,rfl⟩
  |succ h=>simp at g
 .have w:h=0:=by cases h with
   |zero=>rfl
   |succ h=>simp at t
  have x:m=0:=by cases m with
   |zero=>rfl
   |succ h=>simp at u
  rw[w,x]
 .exact ⟨⟨none,0,0,0⟩,0,none,0,rfl,adt _,rfl,fun _=> .inl ⟨rfl,rfl,rfl,rfl,rfl⟩⟩
def QS(d:Call P f [.c ap] H r H')(l:Call P f [.c (.eX [])] H r H'):Call P f [bh []] H r H':=by
 refine⟨d.1,fun g h i m=>?_⟩;have⟨y,j,e,b,k⟩:=m;rcases b with⟨b,_⟩|⟨a,cap,n,b,o,p⟩
 .exact d.2 g h i ⟨y,j,e,⟨b,rfl⟩,k⟩
 .exact l.2 g h i ⟨y,j,e,⟨a,cap,n,b,o,p⟩,k⟩
def Oy{x:List ab}{rows:List (List ab)}(d:Call P f [.c (.eX (x::rows))] H r H'):Call P f [bh (x::rows)] H r H':=by
 refine⟨d.1,fun g h i j=>?_⟩;have⟨y,k,e,b,l⟩:=j;rcases b with⟨_,b⟩|⟨a,cap,m,b,n,o⟩
 .cases b
 .exact d.2 g h i ⟨y,k,e,⟨a,cap,m,b,n,o⟩,l⟩
end
instance iW3:W:=W0
section
variable{f z:Nat}{H H':List Ob}{r:au}
def ahg{P:Program}(g:∀rows,(∀r∈rows,r.length=z)->bA rows=true->rows.length<=1000000->Call P f [.c (.eX rows)] [] (bd 0 0 0 rows.length) [ah z rows])(hn:Call P f [.c ap] [] (.c ap) []){d:List au}(h:fO z d H=some (r,H')):Call P f d H r H':=by
 unfold fO at h;split at h
 .rename_i l;split at h
  .rename_i rows a;split at h
   .rename_i hc;injection h with h;injection h with i j;subst i;subst j;simp only[aa2,aky,af8,ake]at hc;have⟨⟨c1,c2⟩,c3⟩:=hc;have b:=g rows c1 c2 c3;unfold rowsOf at a;split at a
    .injection a with e;subst e;rename_i k;cases k with
     |nil=>exact QS (xK z hn) b
     |cons x m=>exact Oy b
    .injection a with e;subst e;exact b
    .injection a with e;subst e;exact xK z hn
    .cases a
   .cases h
  .cases h
 .cases h
def o9{C:bu}(a:gS C){f:FuncId}{args:List au}(h:aO C (bB C (ev C)) f args H=some (r,H')):Call C.P f args H r H':=HN (fun _ _ _ _ _ h=>JK a h) _ _ _ _ _ h
def mq(f z:Nat):Prop:=(f,z)∈ [(43,10),(44,8),(45,1),(46,2),(47,4),(57,3)]
def Md(d:mq f z){rows:List (List ab)}(e:∀r∈rows,r.length=z)(g:bA rows=true)(h:rows.length<=1000000):aS tz ay 0 f [.c (.eX rows)]=some (bd 0 0 0 rows.length,[ah z rows]):=by
 simp only[mq,ae3,aca,aiP,or_false]at d;have i:rows.length<=maxLen:=by unfold maxLen;omega
 have j:∀k,k<=176->rows.length*k<=140737488355328:=fun k l=>by have:=amE h l;omega
 have m:(rows=[]/\0<rows.length)=False:=eq_false fun⟨a,b⟩=>by rw[a]at b;simp at b
 have n:=eq_true e;rcases d with⟨rfl,rfl⟩|⟨rfl,rfl⟩|⟨rfl,rfl⟩|⟨rfl,rfl⟩|⟨rfl,rfl⟩|⟨rfl,rfl⟩;all_goals refine be (by first|exact func43|exact func44|exact func45|exact func46|exact func47|exact func57) rfl ?_;simp[f43,f44,f45,f46,f47,f57,i,j,m,n,g,pS,qT]
def LJ(a:mq f z):aS tz ay 0 f [.c ap]=some (.c ap,[]):=by simp only[mq,ae3,aca,aiP,or_false]at a;rcases a with⟨rfl,rfl⟩|⟨rfl,rfl⟩|⟨rfl,rfl⟩|⟨rfl,rfl⟩|⟨rfl,rfl⟩|⟨rfl,rfl⟩;all_goals refine be (by first|exact func43|exact func44|exact func45|exact func46|exact func47|exact func57) rfl ?_;simp[f43,f44,f45,f46,f47,f57,pS,qT]
def wg{f z:Nat}(a:mq f z)(b:gS tz){c:List au}{H:List Ob}{r:au}{H':List Ob}(h:fO z c H=some (r,H')):Call aaD f c H r H':=by
 have hm:tz.md f=0:=by simp only[mq,ae3,aca,aiP,or_false]at a;rcases a with⟨rfl,rfl⟩|⟨rfl,rfl⟩|⟨rfl,rfl⟩|⟨rfl,rfl⟩|⟨rfl,rfl⟩|⟨rfl,rfl⟩<;>rfl
 refine ahg (fun rows e d g=>o9 b ?_) (o9 b ?_) h
 .simp[hm,Md a e d g,d]
 .simp[hm,LJ a]
def Pj:tz.md 45=0:=by kernel_rfl
def adN{rows:List (List ab)}:=Md (f:=45) (z:=1) (rows:=rows) (by simp[mq])
def Wv:=LJ (f:=45) (z:=1) (by simp[mq])
def o43:=@wg 43 10 (by simp[mq])
def o44:=@wg 44 8 (by simp[mq])
def Qj:=@wg 45 1 (by simp[mq])
def XL:=@wg 46 2 (by simp[mq])
def o47:=@wg 47 4 (by simp[mq])
def o57:=@wg 57 3 (by simp[mq])
end
instance iW4:W:=W1
def v7{x y:aI}:∀ {l:List aI},y∈fR x l↔y=x\/y∈l
 |[]=>by simp[fR]
 |z::r=>by
  unfold fR
  split
  .simp
  .simp only[ae3,v7 (l:=r)]
   constructor
   .rintro (h|h|h)<;>simp[h]
   .rintro (h|h|h)<;>simp[h]
def zk(f:aI->Nat)(x:aI):∀l:List aI,bT f (fR x l)=f x+bT f l
 |[]=>rfl
 |z::r=>by
  unfold fR
  split
  .rfl
  .simp only[bT,zk f x r];omega
def I9{id:Int}{x:aI}:∀ {l:List aI} {a:Int},dU id a l=true->cR id a x=true->cK l x.peer=false->dU id a (fR x l)=true
 |[],a,_,h,_=>by simp[fR,dU,h]
 |z::r,a,b,c,k=>by
  simp only[dU,aa2]at b
  simp only[cK,alL,aiR,decide_eq_false_iff_not]at k
  unfold fR
  split
  .rename_i hc
   simp only[dU,aa2]
   refine⟨c,?_,b.2⟩
   have h:=b.1
   simp only[cR,aa2,decide_eq_true_eq]at h|-
   obtain⟨⟨⟨⟨⟨⟨m,d⟩,e⟩,f⟩,g⟩,i⟩,j⟩:=h
   exact⟨⟨⟨⟨⟨⟨by omega,d⟩,e⟩,f⟩,g⟩,i⟩,j⟩
  .rename_i hc
   simp only[dU,aa2]
   refine⟨b.1,I9 b.2 ?_ k.2⟩
   simp only[cR,aa2,decide_eq_true_eq]at c|-
   obtain⟨⟨⟨⟨⟨⟨m,d⟩,e⟩,f⟩,g⟩,i⟩,j⟩:=c
   exact⟨⟨⟨⟨⟨⟨by omega,d⟩,e⟩,f⟩,g⟩,i⟩,j⟩
def BC(x:aI)(p:Int)(l:List aI):cK (fR x l) p=(decide (x.peer=p)||cK l p):=by
 rw[ajY];simp only[cK,akk,ai3,decide_eq_true_eq,v7];constructor
 .rintro⟨y,rfl|h,a⟩
  .exact .inl a
  .exact .inr ⟨y,h,a⟩
 .rintro (h|⟨y,h,a⟩)
  .exact ⟨x,.inl rfl,h⟩
  .exact ⟨y,.inr h,a⟩
def xy{id:Int}(hid:id<64):∀ {l:List aI} {a:Int},dU id a l=true->(∀x∈l,x.peer<64)-> -1<=a->a<64->(l.length:Int)+(if a<id then 1 else 0)+a+1<=64
 |[],a,_,_,c,d=>by simp only[aiK];split<;>omega
 |x::r,a,h,hp,c,d=>by
  simp only[dU,aa2]at h
  have b:=h.1
  simp only[cR,aa2,decide_eq_true_eq,afj,decide_eq_false_iff_not]at b
  obtain⟨⟨⟨⟨⟨⟨g,i⟩,_⟩,_⟩,_⟩,_⟩,_⟩:=b
  have e:=hp x (by simp)
  have:=xy hid h.2 (fun y f=>hp y (by simp[f])) (by omega) e
  simp only[ahP]
  split at this<;>split<;>omega
def GB(p e:Int):∀l:List cu,(fV p e l).length<=l.length+1
 |[]=>by simp[fV]
 |k::r=>by
  unfold fV
  split
  .simp
  .split
   .simp
   .have:=GB p e r;simp;omega
def qm(n:Nd)(p:Int):Prop:= ∃x∈n.af,x.peer=p/\x.state=0
structure db(n:Nd):Prop where
 dr:dE n.dr=true
 bk:cM n.book=true
 id:n.id<64
 pe:∀x∈n.af,x.peer<64
 ask:∀k∈n.asked,0<=k.peer/\k.peer<n.id/\cK n.af k.peer=false/\0<=k.aP/\k.aP<=65535
 ad:n.asked.Pairwise fun x y=>x.peer≠y.peer
 wt:∀s∈n.book.aA,s.state=0->∀p∈s.need,qm n p
 th:n.dr.aQ=1->∃s r,n.book.aA=s::r/\s.state=0/\s.need=n.dr.need
def jF(x:aI):Nat:=if x.state=2 then 1 else 0
def dD(a:List Int)(x:aI):Nat:=if gM x=true/\x.peer∉a then 1 else 0
def jE(b:ci):Bool:=match b.aA with
 |[]=>false
 |s::_=>decide (s.state=0)
def oA(a:Int)(wb:Bool):Nat:=if a=0 then(if wb=true then 9 else 0)else if a=1 then 4+cj wb else cj wb
def mH(a b:Int)(wb:Bool)(u:Nat):Nat:=if a=0 then(if b=1\/(b=0/\wb=true)\/0<u then 3 else 0)else if a=1 then 2 else 1
def dP(n:Nd):Nat:=10*n.asked.length+bT eh n.af+bT jF n.af+4*bT (dD n.told) n.af+oA n.dr.aQ (jE n.book)+mH n.phase n.dr.aQ (jE n.book) (bT (dD n.told) n.af)
def il(w:Wk):Nat:=w.out.length+w.seen.length+w.n.told.length+w.n.known.length+dP w.n
def iG(w a:Wk):Prop:=(a.n=w.n\/dP a.n<dP w.n)/\il a<=il w/\a.e=w.e
def iG.refl(w:Wk):iG w w:=⟨.inl rfl,adt _,rfl⟩
def iG.trans{w e f:Wk}(h:iG w e)(g:iG e f):iG w f:=by
 have⟨a,b,c⟩:=h;have⟨d,i,j⟩:=g;refine⟨?_,aiZ i b,j.trans c⟩;rcases a with a|a<;>rcases d with d|d
 .exact .inl (d.trans a)
 .rw[a]at d;exact .inr d
 .rw[d];exact .inr a
 .exact .inr (by omega)
structure tO(w0 w:Wk)(r:List cu):Prop where
 id:w.n.id=w0.n.id
 ph:w.n.phase=w0.n.phase
 th:w.n.dr.aQ=w0.n.dr.aQ
 nd:w.n.dr.need=w0.n.dr.need
 bk:w.n.book=w0.n.book
 told:w.n.told=w0.n.told
 aq:w.n.asked=w0.n.asked
 e:w.e=w0.e
 sub:∀x∈w0.n.af,x∈w.n.af
 ok:dU w.n.id (-1) w.n.af=true
 pe:∀x∈w.n.af,x.peer<64
 ask:∀k∈r,0<=k.peer/\k.peer<w.n.id/\cK w.n.af k.peer=false/\0<=k.aP/\k.aP<=65535
 ad:r.Pairwise fun x y=>x.peer≠y.peer
 s1:bT eh w.n.af+2*r.length=bT eh w0.n.af+2*w0.n.asked.length
 s2:bT jF w.n.af=bT jF w0.n.af
 s3:bT (dD w.n.told) w.n.af=bT (dD w0.n.told) w0.n.af
 t:w.out.length+w.seen.length+w.n.known.length+3*r.length<=w0.out.length+w0.seen.length+w0.n.known.length+3*w0.n.asked.length
def SI{b w:Wk}{k:cu}{r:List cu}(h:tO b w (k::r))(hid:w.n.id<64):tO b (w.iz k) r:=by
 have⟨l,m,d,o,p⟩:=h.ask k (by simp);have q:=GB k.peer k.aP w.n.known;have hp:=af7.1 h.ad;have f:=h.s1;have g:=h.t;simp only[ahP]at f g;refine⟨h.id,h.ph,h.th,h.nd,h.bk,h.told,h.aq,h.e,fun x a=>v7.2 (.inr (h.sub x a)),I9 h.ok ?_ d,?_,?_,hp.2,?_,?_,?_,?_⟩
 .have:¬k.peer=w.n.id:=by omega
  have i:k.peer> -1:=by omega
  show cR w.n.id (-1) ⟨k.peer,k.aP,0,false,false,true,false,true⟩=true;simp[cR,this,i];omega
 .intro x a;rcases v7.1 a with rfl|a
  .show k.peer<64;omega
  .exact h.pe x a
 .intro j c;have⟨c1,c2,c3,c4,c5⟩:=h.ask j (by simp[c]);refine⟨c1,c2,?_,c4,c5⟩;show cK (fR _ _) _=false;rw[BC,c3];have:=hp.1 j c;simp[this]
 .show bT eh (fR _ _)+_=_;rw[zk];simp only[eh,cj];simp;omega
 .show bT jF (fR _ _)=_;rw[zk, <-h.s2];simp[jF]
 .show bT (dD w.n.told) (fR _ _)=_;rw[zk, <-h.s3];simp[dD,gM]
 .simp only[Wk.iz,Wk.ek,Wk.send,Wk.nW,Wk.put,afu,ajN];omega
def Oi{a:Wk}(hid:a.n.id<64):∀ {r:List cu} {w:Wk},tO a w r->tO a (r.foldl Wk.iz w) []
 |[],w,h=>h
 |k::r,w,h=>by
  rw[aiW]
  exact Oi (r:=r) hid (SI h (by rw[h.id];exact hid))
def jA{d:cP}:eA d=true↔0<=d.id/\0<=d.phase/\d.phase<=2/\d.af.length<64/\dU d.id (-1) d.af=true:=by
 simp only[eA,aa2,afj,decide_eq_false_iff_not];constructor
 .rintro⟨⟨⟨⟨a,b⟩,c⟩,g⟩,e⟩;exact⟨by omega,by omega,by omega,by omega,e⟩
 .rintro⟨a,b,c,g,e⟩;exact⟨⟨⟨⟨by omega,by omega⟩,by omega⟩,by omega⟩,e⟩
def iq{d:Dr}:dE d=true↔eA d.ai=true/\0<=d.aQ/\d.aQ<=2/\ei d.need=true/\(d.aQ=0->d.need=[])/\∀p∈d.need,cK d.ai.af p=true:=by
 simp only[dE,aa2,afj,decide_eq_false_iff_not,akd,aj9,akI,ai4];constructor
 .rintro⟨⟨⟨⟨⟨a,b⟩,c⟩,g⟩,e⟩,f⟩;refine⟨a,by omega,by omega,g,fun h=>?_,fun p hp=>by simpa using f p hp⟩;rcases e with e|e
  .exact absurd h e
  .exact e
 .rintro⟨a,b,c,g,e,f⟩;refine⟨⟨⟨⟨⟨a,by omega⟩,by omega⟩,g⟩,?_⟩,fun p hp=>by simpa using f p hp⟩;by_cases h:d.aQ=0
  .exact .inr (e h)
  .exact .inl h
def lN{l:List aI}{p:Int}:cK l p=true↔ ∃x∈l,x.peer=p:=by simp[cK]
def Kx{w:Wk}(h:db w.n):db (dB w).n/\iG w (dB w)/\(dB w).n.book=w.n.book/\(dB w).n.dr.aQ=w.n.dr.aQ:=by
 unfold dB;split
 case isFalse=>exact⟨h,iG.refl w,rfl,rfl⟩
 have b:=iq.1 h.dr;have c:=jA.1 b.1;have a:=Oi h.id (w:=w) (r:=w.n.asked) ⟨rfl,rfl,rfl,rfl,rfl,rfl,rfl,rfl,fun _ h=>h,c.2.2.2.2,h.pe,h.ask,h.ad,rfl,rfl,rfl,by omega⟩;have⟨v,d⟩:=ak (w.n.asked.foldl Wk.iz w);have hA:w.answer=v.put {v.n with asked:=[]}:=by simp only[Wk.answer,d]
 rw[d]at a;rw[hA];have hid:v.n.id<64:=by rw[a.id];exact h.id
 have m:=xy hid a.ok a.pe (by omega) (by omega);have o:v.n.id=w.n.id:=a.id;have B:0<=w.n.id:=c.1;have q:∀p,cK w.n.af p=true->cK v.n.af p=true:=fun p hp=>by have⟨x,g,u⟩:=lN.1 hp;exact lN.2 ⟨x,a.sub x g,u⟩
 refine⟨⟨?_,?_,hid,a.pe,by simp[Wk.put],by simp[Wk.put],?_,?_⟩,⟨?_,?_,a.e⟩,a.bk,a.th⟩
 .refine iq.2 ⟨jA.2 ⟨by show 0<=v.n.id;rw[o];exact c.1,by show 0<=v.n.phase;rw[a.ph];exact c.2.1,by show v.n.phase<=2;rw[a.ph];exact c.2.2.1,?_,a.ok⟩,?_,?_,?_,?_,?_⟩
  .show v.n.af.length<64;split at m<;>omega
  .show 0<=v.n.dr.aQ;rw[a.th];exact b.2.1
  .show v.n.dr.aQ<=2;rw[a.th];exact b.2.2.1
  .show ei v.n.dr.need=true;rw[a.nd];exact b.2.2.2.1
  .show v.n.dr.aQ=0->v.n.dr.need=[];rw[a.th,a.nd];exact b.2.2.2.2.1
  .show ∀p∈v.n.dr.need,_;rw[a.nd];exact fun p hp=>q p (b.2.2.2.2.2 p hp)
 .show cM v.n.book=true;rw[a.bk];exact h.bk
 .show ∀s∈v.n.book.aA,_;rw[a.bk];intro s f y p hp;have⟨x,g,z⟩:=h.wt s f y p hp;exact⟨x,a.sub x g,z⟩
 .show v.n.dr.aQ=1->∃s r,v.n.book.aA=s::r/\s.state=0/\s.need=v.n.dr.need;rw[a.th,a.bk,a.nd];exact h.th
 .have i:=a.s1;have j:=a.s2;have k:=a.s3;by_cases l:w.n.asked=[]
  .left;rw[l]at d;simp at d;subst d;simp only[Wk.put];rw[<-l]
  .right;have C:0<w.n.asked.length:=akn.2 l;simp only[dP,Wk.put,aiK]at i|-;have hp:Nd.phase ⟨v.n.dr,v.n.book,v.n.known,v.n.told,[]⟩=w.n.phase:=a.ph;have f:Nd.af ⟨v.n.dr,v.n.book,v.n.known,v.n.told,[]⟩=v.n.af:=rfl;simp only[hp,f,a.th,a.bk,j,k];omega
 .have i:=a.s1;have j:=a.s2;have k:=a.s3;have A:=a.t;have hp:Nd.phase ⟨v.n.dr,v.n.book,v.n.known,v.n.told,[]⟩=w.n.phase:=a.ph;have f:Nd.af ⟨v.n.dr,v.n.book,v.n.known,v.n.told,[]⟩=v.n.af:=rfl;simp only[il,dP,Wk.put,aiK]at i A|-;simp only[hp,f,a.th,a.bk,j,k];rw[a.told];omega
def Py{bl:Int}:∀ {l:List bY} {b:Int} {f:Bool},dR bl b f l=true->∀s∈l,ei s.need=true/\s.need.length<=64
 |[],_,_,_=>by simp
 |s::r,b,f,h=>by
  simp only[dR,aa2]at h
  intro t a
  rcases ae3.1 a with rfl|a
  .have:=h.1
   simp only[dx,aa2,afj,aiR,aj9,nC,decide_eq_false_iff_not]at this
   exact⟨this.1.1.2,by have:=this.1.1.1.2.1;omega⟩
  .exact Py h.2 t a
def Mz{b:ci}(h:cM b=true):∀s∈b.aA,ei s.need=true/\s.need.length<=64:=by simp only[cM,aa2]at h;exact Py h.2
def Kk{w:Wk}(h:db w.n):db (dq w).n/\iG w (dq w)/\(dq w).n.book=w.n.book/\ ¬((dq w).n.dr.aQ=0/\jE w.n.book=true):=by
 unfold dq waits jE;have g:=iq.1 h.dr;cases b:w.n.book.aA with
 |nil=>exact⟨h,iG.refl w,rfl,fun hc=>by simp at hc⟩
 |cons s r=>
  simp only;by_cases a:s.state=0
  case neg=>simp only[a,if_false];refine⟨h,iG.refl w,?_,?_⟩<;>simp
  simp only[a,if_true];split
  case isFalse hth=>exact⟨h,iG.refl w,rfl,fun hc=>hth hc.1⟩
  case isTrue hth=>
   have f:s∈w.n.book.aA:=by rw[b];simp
   refine⟨⟨?_,h.bk,h.id,h.pe,h.ask,h.ad,h.wt,fun _=>⟨s,r,b,a,rfl⟩⟩,⟨.inr ?_,?_,rfl⟩,rfl,fun hc=>?_⟩
   .refine iq.2 ⟨g.1,by simp[Wk.put,Nd.dg],by simp[Wk.put,Nd.dg],(Mz h.bk s f).1,by simp[Wk.put,Nd.dg],fun p hp=>?_⟩;have⟨x,i,j,_⟩:=h.wt s f a p hp;exact lN.2 ⟨x,i,j⟩
   .have c:jE w.n.book=true:=by simp[jE,b,a]
    have d:(w.put (w.n.dg ⟨w.n.dr.ai,1,s.need⟩)).n.dr.aQ=1:=rfl;have e:(w.put (w.n.dg ⟨w.n.dr.ai,1,s.need⟩)).n.book=w.n.book:=rfl;simp only[dP,d,e,hth,c];simp[Wk.put,Nd.dg,oA,mH,cj,Nd.af,Nd.phase];first|exact Nat.add_lt_add_right (Nat.add_lt_add_left (by decide) _) _|exact Nat.add_le_add_right (Nat.add_le_add_left (by decide) _) _
   .have c:jE w.n.book=true:=by simp[jE,b,a]
    have d:(w.put (w.n.dg ⟨w.n.dr.ai,1,s.need⟩)).n.dr.aQ=1:=rfl;have e:(w.put (w.n.dg ⟨w.n.dr.ai,1,s.need⟩)).n.book=w.n.book:=rfl;simp only[il,dP,d,e,hth,c];simp[Wk.put,Nd.dg,oA,mH,cj,Nd.af,Nd.phase];first|exact Nat.add_lt_add_right (Nat.add_lt_add_left (by decide) _) _|exact Nat.add_le_add_right (Nat.add_le_add_left (by decide) _) _
   .exact absurd hc.1 (by simp[Wk.put,Nd.dg])
def ae6{f:aI->Nat}{l:List aI}{x:aI}(a:x∈l)(h:0<f x):0<bT f l:=by
 induction l with
 |nil=>simp at a
 |cons y r b=>
  simp only[bT];rcases ae3.1 a with rfl|a
  .omega
  .have:=b a;omega
def EX{w:Wk}(h:db w.n):db (dI w).n/\iG w (dI w)/\(dI w).n.book=w.n.book/\(dI w).n.dr.aQ=w.n.dr.aQ:=by
 unfold dI;have a:=iq.1 h.dr;have b:=jA.1 a.1;split
 case isFalse=>exact⟨h,iG.refl w,rfl,rfl⟩
 rename_i hc;have⟨d,e⟩:=hc;have⟨x,f,c⟩:=akk.1 e;have g:0<bT (dD w.n.told) w.n.af:=ae6 f (by simp only[untold,aa2,afj,decide_eq_false_iff_not]at c;simp[dD,c])
 have i:dP (w.n.dg ⟨⟨w.n.id,1,w.n.af⟩,w.n.dr.aQ,w.n.dr.need⟩)<dP w.n:=by have j:Nd.phase (w.n.dg ⟨⟨w.n.id,1,w.n.af⟩,w.n.dr.aQ,w.n.dr.need⟩)=1:=rfl;have k:Nd.af (w.n.dg ⟨⟨w.n.id,1,w.n.af⟩,w.n.dr.aQ,w.n.dr.need⟩)=w.n.af:=rfl;simp only[dP,d,Nd.dg];simp only[mH,g,or_true,if_true];simp[Nd.phase]
 refine⟨⟨?_,h.bk,h.id,h.pe,h.ask,h.ad,h.wt,h.th⟩,⟨.inr i,?_,rfl⟩,rfl,rfl⟩
 .exact iq.2 ⟨jA.2 ⟨b.1,by simp[Wk.put,Nd.dg],by simp[Wk.put,Nd.dg],b.2.2.2⟩,a.2⟩
 .simp only[il,Wk.put];have:(w.n.dg ⟨⟨w.n.id,1,w.n.af⟩,w.n.dr.aQ,w.n.dr.need⟩).told=w.n.told:=rfl;have:(w.n.dg ⟨⟨w.n.id,1,w.n.af⟩,w.n.dr.aQ,w.n.dr.need⟩).known=w.n.known:=rfl;simp only[Nd.dg]at*;omega
def fD(x:aI):Int×Int:=(x.peer,x.state)
def zU{f:aI->Nat}{g:Int×Int->Nat}(h:∀x,f x=g (fD x)):∀ {l m:List aI},l.map fD=m.map fD->bT f l=bT f m
 |[],[],_=>rfl
 |[],_::_,h=>by simp at h
 |_::_,[],h=>by simp at h
 |x::l,y::m,a=>by
  simp only[afL,aiu]at a
  simp only[bT,h x,h y,a.1,zU h a.2]
def Zf(x:aI):jF x=(fun k:Int×Int=>if k.2=2 then 1 else 0) (fD x):=rfl
def L7(a:List Int)(x:aI):dD a x=(fun k:Int×Int=>if decide (k.2=1)=true/\k.1∉a then 1 else 0) (fD x):=rfl
def yp{f:aI->aI}(h:∀x,fD (f x)=fD x)(l:List aI):(l.map f).map fD=l.map fD:=by rw[ai6];congr 1;funext x;exact h x
def Nb(id a:Int)(x:aI):fD (cI id a x).1=fD x:=by simp only[cI,fD];split<;>split<;>rfl
def aaE(id a:Int)(need:List Int)(x:aI):fD (bM id a need x).1=fD x:=by simp only[bM,fD];split<;>split<;>rfl
def aao{d:cP}(h:eA d=true):(fA d).1.af.map fD=d.af.map fD:=by
 have a:¬eA d=false:=by simp[h]
 unfold fA;rw[if_neg a];simp only;split
 .simp only;rw[yp (f:=fun x=>{x with cJ:=true}) (fun _=>rfl),yp (fun x=>Nb _ _ x)]
 .exact yp (fun x=>Nb _ _ x) _
def PN{d:Dr}(h:dE d=true):(cv d).1.ai.af.map fD=d.ai.af.map fD:=by have:=aao (qe h);simp only at this;simp only[cv,qX];rw[yp (fun x=>aaE _ _ _ x)];exact this
def T0(c d o u:Nat)(t a p b e:Int)(wb f:Bool)(j:t=0\/t=1\/t=2)(hp:p=0\/p=1\/p=2)(k:¬(t=0/\wb=true))(l:d+o=c)(g:(a=2/\t=1)\/a=t)
  (h:(b=2/\e=1)\/b=e) (m:e=if t=1/\p=0 then 1 else if p=2/\t≠1/\f=true then 0 else p) (i:f=true->u=0):
  d+oA a wb+mH b a wb u+o<=c+oA t wb+mH p t wb u/\(o≠0\/a≠t\/b≠p->d+oA a wb+mH b a wb u<c+oA t wb+mH p t wb u)/\ ¬(a=0/\wb=true):=by
 subst m l
 rcases j with rfl|rfl|rfl<;>rcases hp with rfl|rfl|rfl<;>rcases g with⟨rfl,g⟩|rfl<;>(try cases g)<;>cases wb<;>cases f<;>simp at h k i<;>(try subst i)<;>(try rcases h with rfl|rfl)<;>(try subst h)<;>simp[oA,mH,cj]<;>(try split)<;>(try omega)
def l8(a:List Int)(wb:Bool)(d:Dr):Nat:=bT eh d.ai.af+oA d.aQ wb+mH d.ai.phase d.aQ wb (bT (dD a) d.ai.af)
def O4{b:List Int}:∀ {l:List aI},l.any gM=false->bT (dD b) l=0
 |[],_=>rfl
 |x::r,a=>by
  simp only[alL,aiR]at a
  simp only[bT,O4 a.2,dD,a.1]
  simp
def acV{d:Dr}{told:List Int}{wb:Bool}(h:dE d=true)(r:¬(d.aQ=0/\wb=true)):l8 told wb (cv d).1+(cv d).2.length<=l8 told wb d/\((cv d).1≠d->l8 told wb (cv d).1<l8 told wb d)/\ ¬((cv d).1.aQ=0/\wb=true):=by
 have u:=Ci h;have v:=Ey d;have m:=RD h;have o:=yn h;have w:=PN h;have x:bT (dD told) (cv d).1.ai.af=bT (dD told) d.ai.af:=zU (g:=fun k:Int×Int=>if decide (k.2=1)=true/\k.1∉told then 1 else 0) (L7 told) w;have y:=iq.1 h;have B:=jA.1 y.1
 have l:=T0 (bT eh d.ai.af) (bT eh (cv d).1.ai.af) (cv d).2.length (bT (dD told) d.ai.af) d.aQ (cv d).1.aQ d.ai.phase (cv d).1.ai.phase (eF d) wb (!d.ai.af.any gM) (by omega) (by omega) r u v
  (by rcases m with h|h;exact .inl h;exact .inr h.1) (by simp[eF]) (fun hn=>O4 (by simpa using hn))
 simp only[l8,x];refine⟨l.1,fun z=>l.2.1 ?_,l.2.2⟩;by_cases a:(cv d).2.length=0
 .by_cases b:(cv d).1.aQ=d.aQ
  .by_cases c:(cv d).1.ai.phase=d.ai.phase
   .exfalso
    apply z;rcases m with⟨q,e⟩|⟨q,e⟩
    .exfalso
     rw[q]at c;have:eF d=if d.aQ=1/\d.ai.phase=0 then 1 else if d.ai.phase=2/\d.aQ≠1/\(d.ai.af.any gM)=false then 0 else d.ai.phase:=rfl;rw[this, <-c]at e;simp at e;split at e<;>omega
    .have f:=e (List.length_eq_zero_iff.1 a);have j:=o.1;have hn:=o.2.2;revert b c f j hn
     generalize(cv d).1=A;intro b c f j hn;have⟨⟨i,p,s⟩,t,n⟩:=d;have⟨⟨C,D,E⟩,F,G⟩:=A;simp only at b c f j hn;rw[b,c,f,j,hn]
   .exact .inr (.inr c)
  .exact .inr (.inl b)
 .exact .inl a
structure vF(told:List Int)(wb:Bool)(d d':Dr)(n:Nat):Prop where
 ok:dE d'=true
 j:¬(d'.aQ=0/\wb=true)
 m:l8 told wb d'+n<=l8 told wb d
 m2:d'≠d->l8 told wb d'<l8 told wb d
 k:d'.ai.af.map fD=d.ai.af.map fD
 id:d'.ai.id=d.ai.id
 nd:d'.need=d.need
 th:d'.aQ=d.aQ\/(d'.aQ=2/\d.aQ=1)
def vF.step{told:List Int}{wb:Bool}{d f:Dr}{n:Nat}(h:vF told wb d f n):vF told wb d (cv f).1 (n+(cv f).2.length):=by
 have g:=acV (told:=told) h.ok h.j;have i:=yn h.ok;have o:=Ey f;have hm:=h.m;refine⟨LM h.ok,g.2.2,by omega,fun l=>?_,(PN h.ok).trans h.k,i.1.trans h.id,i.2.2.trans h.nd,?_⟩
 .by_cases a:(cv f).1=f
  .rw[a]at l|-;exact h.m2 l
  .have:=g.2.1 a;omega
 .rcases o with⟨a,b⟩|a
  .rcases h.th with c|⟨c,e⟩
   .exact .inr ⟨a,by rw[<-c];exact b⟩
   .rw[b]at c;cases c
  .rw[a];exact h.th
def Mj{b:List Int}{wb:Bool}{d:Dr}:∀(k:Nat) (a:Dr) (out:List cB),vF b wb d a out.length->vF b wb d (p5 k a out).1 (p5 k a out).2.length
 |0,_,_,h=>h
 |k+1,a,out,h=>by
  have:=h.step
  unfold p5
  split
  .simp only[afu];exact this
  .exact Mj k _ _ (by simp only[afu];exact this)
def Rr{told:List Int}{wb:Bool}{d:Dr}(h:dE d=true)(a:¬(d.aQ=0/\wb=true)):vF told wb d (kY d).1 (kY d).2.1.length:=by unfold kY;rw[if_neg (by simp[h])];exact Mj _ d [] ⟨h,a,by simp,fun h=>absurd rfl h,rfl,rfl,rfl,.inl rfl⟩
def Wy{l m:List aI}(h:l.map fD=m.map fD)(p:Int):cK l p=cK m p:=by
 have:∀l:List aI,cK l p=(l.map fD).any fun k=>decide (k.1=p):=fun l=>by rw[List.any_map];rfl
 rw[this,this,h]
def LX{l m:List aI}(h:l.map fD=m.map fD){x:aI}(b:x∈l):∃y∈m,y.peer=x.peer/\y.state=x.state:=by
 have c:fD x∈m.map fD:=by rw[<-h];exact akm b
 have⟨y,d,a⟩:=aiE.1 c;simp only[fD,aca]at a;exact⟨y,d,a⟩
def FH{w:Wk}(h:db w.n)(j:¬(w.n.dr.aQ=0/\jE w.n.book=true)):db (fI w).n/\iG w (fI w)/\(fI w).n.book=w.n.book:=by
 have r:=Rr (told:=w.n.told) h.dr j;unfold fI;have⟨d,o⟩:=ak ((kY w.n.dr).1);have⟨out,q⟩:=ak ((kY w.n.dr).2.1);rw[o,q]at r|-;have t:bT jF d.ai.af=bT jF w.n.dr.ai.af:=zU (g:=fun k:Int×Int=>if k.2=2 then 1 else 0) Zf r.k;have hm:=r.m;simp only[l8]at hm;have u:dP (w.n.dg d)=10*w.n.asked.length+bT jF w.n.dr.ai.af+4*bT (dD w.n.told) w.n.dr.ai.af+l8 w.n.told (jE w.n.book) d:=by have v:bT (dD w.n.told) d.ai.af=bT (dD w.n.told) w.n.dr.ai.af:=zU (g:=fun k:Int×Int=>if decide (k.2=1)=true/\k.1∉w.n.told then 1 else 0) (L7 w.n.told) r.k;simp only[dP,Nd.dg,Nd.af,Nd.phase,l8,t,v];omega
 have z:dP w.n=10*w.n.asked.length+bT jF w.n.dr.ai.af+4*bT (dD w.n.told) w.n.dr.ai.af+l8 w.n.told (jE w.n.book) w.n.dr:=by simp only[dP,Nd.af,Nd.phase,l8];omega
 refine⟨⟨r.ok,h.bk,by show d.ai.id<64;rw[r.id];exact h.id,?_,?_,h.ad,?_,?_⟩,⟨?_,?_,rfl⟩,rfl⟩
 .intro x b;have⟨y,c,e,_⟩:=LX r.k b;rw[<-e];exact h.pe y c
 .intro k A;have:=h.ask k A;show _/\k.peer<d.ai.id/\cK d.ai.af k.peer=false/\_;rw[r.id,Wy r.k];exact this
 .intro s B C p hp;have⟨x,b,e,D⟩:=h.wt s B C p hp;have⟨y,c,E,F⟩:=LX r.k.symm b;exact⟨y,c,E.trans e,F.trans D⟩
 .intro f;show ∃s l,w.n.book.aA=s::l/\s.state=0/\s.need=d.need;rw[r.nd];rcases r.th with a|⟨a,_⟩
  .exact h.th (by rw[<-a];exact f)
  .have:d.aQ=1:=f;rw[this]at a;cases a
 .by_cases i:d=w.n.dr
  .left;rw[i];rfl
  .right;have:=r.m2 i;show dP (w.n.dg d)<dP w.n;omega
 .simp only[il,afu];show _+_+_+w.n.told.length+w.n.known.length+dP (w.n.dg d)<=_;simp only[l8]at u z;omega
def Uy{bl a:Int}{s:bY}{r:List bY}(h:dR bl a true (s::r)=true)(b:s.state=0):dR bl a true ({s with state:=1}::r)=true:=by simp only[dR,dx,aa2,ai3,decide_eq_true_eq]at h|-;exact⟨⟨h.1.1,.inl (by simp)⟩,h.2⟩
def MH{w:Wk}(h:db w.n):db (fe w).n/\iG w (fe w):=by
 unfold fe waits;cases c:w.n.book.aA with
 |nil=>exact⟨h,iG.refl w⟩
 |cons s r=>
  simp only;by_cases b:s.state=0
  case neg=>simp only[b,if_false];exact⟨h,iG.refl w⟩
  simp only[b,if_true];split
  case isFalse=>exact⟨h,iG.refl w⟩
  rename_i hth;have f:(kB w.n.book).1=⟨w.n.book.last,{s with state:=1}::r⟩:=by unfold kB;rw[if_neg (by simp[h.bk]),c];simp[b]
  rw[f];have d:=h.bk;have g:jE w.n.book=true:=by simp[jE,c,b]
  have i:jE ⟨w.n.book.last,{s with state:=1}::r⟩=false:=by simp[jE]
  have j:dP ⟨w.n.dr,⟨w.n.book.last,{s with state:=1}::r⟩,w.n.known,w.n.told,w.n.asked⟩+1<=dP w.n:=by simp only[dP,Nd.af,Nd.phase,g,i,hth];simp only[oA,mH,cj];simp;split<;>(try split)<;>omega
  refine⟨⟨h.dr,?_,h.id,h.pe,h.ask,h.ad,?_,?_⟩,⟨.inr (Nat.lt_of_succ_le j),?_,rfl⟩⟩
  .simp only[cM,c,aa2]at d;simp only[Wk.dM,Wk.put,cM,aa2];exact⟨⟨d.1.1,by have:=d.1.2;simp only[ahP]at this|-;exact this⟩,Uy d.2 b⟩
  .intro t a e;simp only[Wk.dM,Wk.put]at a;rcases ae3.1 a with rfl|a
   .simp at e
   .exact h.wt t (by rw[c];simp[a]) e
  .intro a;simp only[Wk.dM,Wk.put]at a;rw[hth]at a;cases a
  .simp only[il,Wk.dM,Wk.put,afu,ajN];show w.out.length+(w.seen.length+1)+w.n.told.length+w.n.known.length+dP ⟨w.n.dr,⟨w.n.book.last,{s with state:=1}::r⟩,w.n.known,w.n.told,w.n.asked⟩<=_;omega
def AX{x y:Int}:∀ {l:List Int},y∈kA x l↔y=x\/y∈l
 |[]=>by simp[kA]
 |z::r=>by
  unfold kA
  split
  .simp
  .simp only[ae3,AX (l:=r)]
   constructor
   .rintro (h|h|h)<;>simp[h]
   .rintro (h|h|h)<;>simp[h]
def NN{y:Int}:∀ {l:List Int},y∈gA l↔y∈l
 |[]=>by simp[gA]
 |z::r=>by simp[gA,AX,NN (l:=r)]
def Ik{y:Int}:∀ {l:List Int},y∈du l↔y∈l
 |[]=>by simp[du]
 |z::r=>by
  have b:=Ik (y:=y) (l:=r)
  unfold du
  cases c:du r with
  |nil=>
   rw[c]at b
   simp only[ae3, <-b]
  |cons a t=>
   rw[c]at b
   simp only
   split
   .rename_i d
    subst d
    rw[ae3 (l:=r), <-b,ae3]
    constructor
    .rintro (h|h)<;>simp[h]
    .rintro (h|h|h)<;>simp[h]
   .simp only[ae3 (l:=r), <-b,ae3]
def wh{y:Int}{l:List Int}:y∈cD l↔y∈l:=by unfold cD;rw[Ik,NN]
def PW(x:Int):∀l:List Int,(kA x l).length=l.length+1
 |[]=>rfl
 |z::r=>by
  unfold kA
  split
  .rfl
  .simp[PW x r]
def ED:∀l:List Int,(gA l).length=l.length
 |[]=>rfl
 |z::r=>by simp[gA,PW,ED r]
def RV:∀l:List Int,(du l).length<=l.length
 |[]=>adt _
 |z::r=>by
  have b:=RV r
  unfold du
  cases c:du r with
  |nil=>simp
  |cons a t=>
   rw[c]at b
   simp only[ahP]at b|-
   split<;>simp only[ahP]<;>omega
def EF(l:List Int):(cD l).length<=l.length:=by unfold cD;rw[<-ED l];exact RV _
def O1{c d:List Int}(h:∀p∈c,p∈d):∀l:List aI,bT (dD d) l<=bT (dD c) l
 |[]=>adt _
 |x::r=>by
  have e:=O1 h r
  simp only[bT,dD]
  by_cases a:x.peer∈c
  .simp[a,h _ a];exact e
  .by_cases b:gM x=true
   .simp[a,b]
    split<;>omega
   .simp[b];exact e
def zB(id:Int):∀(l:List aI) (c:List Int) (out:List cB), ∃m,(jo id l c out).2.length=out.length+m/\(jo id l c out).1.length<=c.length+m/\(∀p∈c,p∈(jo id l c out).1)/\bT (dD (jo id l c out).1) l+m<=bT (dD c) l/\(m=0->jo id l c out=(c,out))
 |[],c,out=>⟨0,rfl,adt _,fun _ h=>h,adt _,fun _=>rfl⟩
 |x::r,c,out=>by
  unfold jo
  split
  .rename_i hc
   have⟨m,e,f,d,g,i⟩:=zB id r (gN c [x.peer]) (out++[fu id x 5])
   have⟨q,k⟩:=ak (jo id r (gN c [x.peer]) (out++[fu id x 5]))
   rw[k]at e f d g|-
   have j:∀p∈c,p∈gN c [x.peer]:=fun p hp=>by simp[gN,wh,hp]
   have n:x.peer∈gN c [x.peer]:=by simp[gN,wh]
   have t:(gN c [x.peer]).length<=c.length+1:=by
    have:=EF (c++[x.peer])
    simpa[gN]using this
   have hm:=O1 j r
   refine⟨m+1,by simp at e;omega,by omega,fun p hp=>d p (j p hp),?_,by omega⟩
   simp only[bT]
   have o:dD q.1 x=0:=by simp[dD,d _ n]
   have s:dD c x=1:=by simp[dD,hc.1,hc.2]
   omega
  .rename_i hc
   have⟨m,e,f,d,g,i⟩:=zB id r c out
   refine⟨m,e,f,d,?_,i⟩
   simp only[bT]
   have s:dD c x=0:=by simp only[dD,hc,if_false]
   have o:dD (jo id r c out).1 x=0:=by
    simp only[dD]
    rw[if_neg]
    rintro⟨a,b⟩
    exact hc ⟨a,fun hp=>b (d _ hp)⟩
   omega
def PI{w:Wk}(h:db w.n):db (iX w).n/\iG w (iX w):=by
 unfold iX;split
 case isFalse=>exact⟨h,iG.refl w⟩
 rename_i a;have⟨m,c,d,e,f,b⟩:=zB w.n.id w.n.af w.n.told w.out;unfold Wk.tell;have⟨q,g⟩:=ak (jo w.n.id w.n.af w.n.told w.out);rw[g]at c d e f b|-;simp only;have k:dP ({w.n with told:=q.1}:Nd)+4*m<=dP w.n:=by have i:Nd.phase ({w.n with told:=q.1}:Nd)=2:=a;have j:Nd.af ({w.n with told:=q.1}:Nd)=w.n.af:=rfl;simp only[dP,i,j,a,mH];simp only[show ¬((2:Int)=0)by decide,show ¬((2:Int)=1)by decide,if_false];omega
 refine⟨⟨h.dr,h.bk,h.id,h.pe,h.ask,h.ad,h.wt,h.th⟩,⟨?_,?_,rfl⟩⟩
 .by_cases hm:m=0
  .left;have:=b hm;subst this;rfl
  .right;show dP ({w.n with told:=q.1}:Nd)<dP w.n;omega
 .simp only[il];show q.2.length+w.seen.length+q.1.length+w.n.known.length+dP ({w.n with told:=q.1}:Nd)<=_;omega
def wJ(id a:Int)(b:List Int)(x:aI):((dC id a b x).1=[x]/\(dC id a b x).2=[])\/(x.state=2/\ ¬(a=2/\x.peer∈b)/\(dC id a b x).2.length=1/\((dC id a b x).1=[]\/(dC id a b x).1=[{x with state:=3}])):=by
 unfold dC;split
 .exact .inl ⟨rfl,rfl⟩
 .rename_i hc;simp only[not_or,alY]at hc;refine .inr ⟨hc.1,hc.2,?_⟩;split
  .exact ⟨rfl,.inr rfl⟩
  .exact ⟨rfl,.inl rfl⟩
def L2(id d:Int)(e f:List Int):∀l:List aI,bT eh (l.flatMap fun x=>(dC id d e x).1)<=bT eh l/\bT (dD f) (l.flatMap fun x=>(dC id d e x).1)=bT (dD f) l/\bT jF (l.flatMap fun x=>(dC id d e x).1)+(l.flatMap fun x=>(dC id d e x).2).length=bT jF l/\((l.flatMap fun x=>(dC id d e x).2)=[]->(l.flatMap fun x=>(dC id d e x).1)=l)
 |[]=>⟨adt _,rfl,rfl,fun _=>rfl⟩
 |x::r=>by
  have⟨j,k,m,i⟩:=L2 id d e f r
  simp only[ait,bT]
  rcases wJ id d e x with⟨a,b⟩|⟨a,_,b,c⟩
  .rw[a,b]
   simp only[akE,aiy,bT]
   exact⟨by omega,by omega,by omega,fun h=>by rw[i h]⟩
  .have n:jF x=1:=by simp[jF,a]
   have o:dD f x=0:=by simp[dD,gM,a]
   have g:(dC id d e x).2++(r.flatMap fun x=>(dC id d e x).2)≠ []:=by
    intro h
    have:=alg.1 h
    rw[this.1]at b
    cases b
   rcases c with c|c
   .rw[c]
    simp only[aiy,afu]
    exact⟨by omega,by omega,by omega,fun h=>absurd h g⟩
   .rw[c]
    simp only[akE,afu,bT]
    have p:jF {x with state:=3}=0:=by simp[jF]
    have q:dD f {x with state:=3}=0:=by simp[dD,gM]
    have s:eh {x with state:=3}=eh x:=rfl
    exact⟨by omega,by omega,by omega,fun h=>absurd h g⟩
def aaM{id e:Int}{f:List Int}{l:List aI}{y:aI}(h:y∈l.flatMap fun x=>(dC id e f x).1):∃x∈l,y.peer=x.peer:=by
 have⟨x,g,d⟩:=amd.1 h;rcases wJ id e f x with⟨a,b⟩|⟨a,_,b,c|c⟩
 .rw[a]at d;simp at d;exact⟨x,g,by rw[d]⟩
 .rw[c]at d;simp at d
 .rw[c]at d;simp at d;exact⟨x,g,by rw[d]⟩
def L1{id c:Int}{d:List Int}{l:List aI}{x:aI}(e:x∈l)(h:x.state≠2\/(c=2/\x.peer∈d)):x∈l.flatMap fun x=>(dC id c d x).1:=by
 refine amd.2 ⟨x,e,?_⟩;rcases wJ id c d x with⟨a,b⟩|⟨a,b,_⟩
 .rw[a];simp
 .rcases h with h|h
  .exact absurd a h
  .exact absurd h b
def U0{id a b:Int}{x:aI}(h:cR id b x=true)(j:a<=b):cR id a x=true:=by simp only[cR,aa2,decide_eq_true_eq]at h|-;obtain⟨⟨⟨⟨⟨⟨k,c⟩,d⟩,e⟩,f⟩,g⟩,i⟩:=h;exact⟨⟨⟨⟨⟨⟨by omega,c⟩,d⟩,e⟩,f⟩,g⟩,i⟩
def NG{id:Int}:∀ {l:List aI} {a b:Int},dU id b l=true->a<=b->dU id a l=true
 |[],_,_,_,_=>rfl
 |x::r,a,b,h,c=>by
  simp only[dU,aa2]at h|-
  exact⟨U0 h.1 c,h.2⟩
def Qs{i id th:Int}{nd:List Int}:∀ {l:List aI} {d:Int},dU i d l=true->dU i d (l.flatMap fun x=>(dC id th nd x).1)=true
 |[],_,_=>rfl
 |x::r,d,h=>by
  simp only[dU,aa2]at h
  have e:=Qs (id:=id) (th:=th) (nd:=nd) h.2
  have f:d<=x.peer:=by
   have:=h.1
   simp only[cR,aa2,decide_eq_true_eq]at this
   omega
  simp only[ait]
  rcases wJ id th nd x with⟨a,b⟩|⟨a,_,b,c|c⟩
  .rw[a];simp only[akE,dU,aa2];exact⟨h.1,e⟩
  .rw[c];exact NG e f
  .rw[c]
   simp only[akE,dU,aa2]
   refine⟨?_,e⟩
   have:=h.1
   simp only[cR,aa2]at this|-
   obtain⟨⟨⟨⟨⟨⟨g,j⟩,k⟩,m⟩,o⟩,p⟩,n⟩:=this
   exact⟨⟨⟨⟨⟨⟨g,j⟩,k⟩,m⟩,by simp⟩,by simp⟩,n⟩
def P3(id d:Int)(e:List Int):∀l:List aI,(l.flatMap fun x=>(dC id d e x).1).length<=l.length
 |[]=>adt _
 |x::r=>by
  have f:=P3 id d e r
  simp only[ait,afu,ahP]
  rcases wJ id d e x with⟨a,b⟩|⟨a,_,b,c|c⟩
  .rw[a];simp only[ajN];omega
  .rw[c];simp only[aiK];omega
  .rw[c];simp only[ajN];omega
def Na{w:Wk}(h:db w.n):db w.kR.n/\iG w w.kR:=by
 have b:=iq.1 h.dr;have c:=jA.1 b.1;have⟨C,m,o,e⟩:=L2 w.n.id w.n.dr.aQ w.n.dr.need w.n.told w.n.af;have q:=P3 w.n.id w.n.dr.aQ w.n.dr.need w.n.af;have t:=Qs (id:=w.n.id) (th:=w.n.dr.aQ) (nd:=w.n.dr.need) c.2.2.2.2;have f:∀p,qm w.n p->∃x∈w.n.af.flatMap (fun x=>(dC w.n.id w.n.dr.aQ w.n.dr.need x).1),x.peer=p/\x.state=0:=by rintro p ⟨x,a,g,D⟩;exact⟨x,L1 a (.inl (by omega)),g,D⟩
 have i:∀y∈w.n.af.flatMap (fun x=>(dC w.n.id w.n.dr.aQ w.n.dr.need x).1), ∃x∈w.n.af,y.peer=x.peer:=fun y d=>aaM d
 have u:∀p∈w.n.dr.need,cK (w.n.af.flatMap (fun x=>(dC w.n.id w.n.dr.aQ w.n.dr.need x).1)) p=true:=by
  intro p hp;by_cases c1:w.n.dr.aQ=2
  .have ⟨x,a,v⟩:=lN.1 (b.2.2.2.2.2 p hp);exact lN.2 ⟨x,L1 a (.inr ⟨c1,by rw[v];exact hp⟩),v⟩
  .by_cases c2:w.n.dr.aQ=1
   .have ⟨s,r,E,j,hn⟩:=h.th c2;have⟨x,a,g,_⟩:=f p (h.wt s (by rw[E];simp) j p (by rw[hn];exact hp));exact lN.2 ⟨x,a,g⟩
   .have F:w.n.dr.aQ=0:=by omega
    rw[b.2.2.2.2.1 F]at hp;simp at hp
 unfold Wk.kR;have⟨S,z⟩:=ak (w.n.af.flatMap (fun x=>(dC w.n.id w.n.dr.aQ w.n.dr.need x).1));have⟨O,G⟩:=ak (w.n.af.flatMap (fun x=>(dC w.n.id w.n.dr.aQ w.n.dr.need x).2));rw[z]at C m o q t f i u|-;rw[G]at o e|-;rw[z]at e;have W:dP (w.n.eK S)+O.length<=dP w.n:=by have H:Nd.phase (w.n.eK S)=w.n.phase:=rfl;have I:Nd.af (w.n.eK S)=S:=rfl;have J:(w.n.eK S).told=w.n.told:=rfl;have K:(w.n.eK S).dr.aQ=w.n.dr.aQ:=rfl;have L:(w.n.eK S).book=w.n.book:=rfl;have M:(w.n.eK S).asked=w.n.asked:=rfl;simp only[dP,H,I,J,K,L,M,m];omega
 refine⟨⟨?_,h.bk,h.id,?_,?_,h.ad,?_,h.th⟩,⟨?_,?_,rfl⟩⟩
 .exact iq.2 ⟨jA.2 ⟨c.1,c.2.1,c.2.2.1,by show S.length<64;have:=c.2.2.2.1;simp only[Nd.af]at q;omega,t⟩,b.2.1,b.2.2.1,b.2.2.2.1,b.2.2.2.2.1,u⟩
 .intro y d;have⟨x,a,l⟩:=i y d;rw[l];exact h.pe x a
 .intro k N;have⟨P,Q,A,R,T⟩:=h.ask k N;refine⟨P,Q,?_,R,T⟩;cases hc:cK S k.peer with
  |false=>exact hc
  |true=>have⟨y,d,l⟩:=lN.1 hc;have⟨x,a,U⟩:=i y d;rw[lN.2 ⟨x,a,U.symm.trans l⟩]at A;cases A
 .intro s V j p hp;exact f p (h.wt s V j p hp)
 .by_cases B:O=[]
  .left;rw[e B];rfl
  .right;have:0<O.length:=akn.2 B;show dP (w.n.eK S)<dP w.n;omega
 .simp only[il,afu];show w.out.length+O.length+w.seen.length+w.n.told.length+w.n.known.length+dP (w.n.eK S)<=_;omega
def yY{w:Wk}(h:db w.n):db w.iv.n/\iG w w.iv:=by have⟨a,b,o,p⟩:=Kx h;have⟨c,d,e,f⟩:=Kk a;have⟨c1,c2,c3,c4⟩:=EX c;have⟨d1,d2,d3⟩:=FH c1 (by rw[c3,c4,e];exact f);have⟨g,i⟩:=MH d1;have⟨j,k⟩:=PI g;have⟨l,m⟩:=Na j;exact⟨l,b.trans (d.trans (c2.trans (d2.trans (i.trans (k.trans m)))))⟩
instance iW5:W:=W0
section
variable{l:List Int}{H:List Ob}
def afV:∀(a:Int) (l:List Int),du (a::l)≠ []:=fun a l=>by
 unfold du;split
 .simp
 .split<;>simp
def K7(x:Int):∀l:List Int,du (l++[x])=if l.getLast?=some x then du l else du l++[x]
 |[]=>by simp[du]
 |[a]=>by
  by_cases h:a=x
  .subst h;simp[du]
  .simp[du,h]
 |a::b::r=>by
  have d:=K7 x (b::r)
  have e:(a::b::r).getLast?=(b::r).getLast?:=by simp[List.getLast?_cons]
  obtain⟨y,t,f⟩:∃y t,du (b::r)=y::t:=by
   cases h:du (b::r)with
   |nil=>exact absurd h (afV _ _)
   |cons y t=>exact⟨y,t,rfl⟩
  rw[e]
  by_cases c:(b::r).getLast?=some x
  .rw[if_pos c]at d|-
   show(match du ((b::r)++[x])with|[]=>[a]|z::t=>if a=z then z::t else a::z::t)=_
   rw[d]
   rfl
  .rw[if_neg c]at d|-
   show(match du ((b::r)++[x])with|[]=>[a]|z::t=>if a=z then z::t else a::z::t)=(match du (b::r)with|[]=>[a]|z::t=>if a=z then z::t else a::z::t)++[x]
   rw[d,f]
   simp only[ai1]
   split<;>rfl
def Oo{i:Nat}(a:0<i)(h:i<l.length):du (l.take (i+1))=if l[i-1]'(by omega)=l[i]then du (l.take i)else du (l.take i)++[l[i]]:=by
 rw[aiB,aae h];simp only[Option.toList_some];rw[K7];have:(l.take i).getLast?=some (l[i-1]'(by omega)):=by rw[List.getLast?_eq_getElem?,aiV,show min i l.length-1=i-1 from by omega,ajG,if_pos (by omega),aae (by omega)]
 rw[this];simp only[abj]
def O3:tz.dH 191=tq:=by kernel_rfl
def aaL{h v n:Nat}(a:H[h]?=some (.live v 1 (l.map aC)))(hn:l.length=n)(b:n<=1000000):aO tz ay 191 [bd h v 0 n] H=some (.aM [],H.set h (.live v 1 ((gA l).map aC))):=by
 have c:obj H h v=some (1,l.map aC):=by unfold obj;rw[a];simp
 rw[dz (f:=191) rfl,iw Fj,O3];simp[-obj,tq,Di,c,zW,hn,b]
def yw{f:FuncId}(hm:tz.md f=3){args:List au}{r:Option (au×List Ob)}(h:bB tz (ev tz) f args H=r):aO tz ay f args H=r:=by rw[aD,if_pos (.inl hm)];exact h
def u9(H:List Ob)(h v n:Nat)(l:List Int):List Ob:=H.set h (.live v 1 ((du l++ago (n-(du l).length) (0:Int)).map aC))
def aa4{h v n:Nat}(s:H[h]?=some (.live v 1 (l.map aC)))(hn:l.length=n)(hl:n<=1000000):aO tz ay 192 [bd h v 0 n] H=some (bd h v 0 (du l).length,u9 H h v n l):=by
 have Z:du l=l->u9 H h v n l=H:=fun e=>by unfold u9;rw[e,hn,ajx];simp only[alA,aeo];exact lP s
 refine yw (by simp) ?_;refine te func192 rfl ?_;simp only[f192,bX];refine bp [(0,bd h v 0 n)] (fun G=>G=H) ?_ ?_
 .simp
 rintro q G⟨F,_⟩a;obtain rfl:H=G:=a.symm;by_cases c2:n<2
 .have e:du l=l:=by
   rcases l with _|⟨am,_|⟨aw,an⟩⟩
   .rfl
   .rfl
   .simp at hn;omega
  rw[Z e,e,hn];have M:(n:Int)<2:=by omega
  simp[F,M]
 have M:¬(n:Int)<2:=by omega
 refine bp [(0,bd h v 0 n)] (fun G=>G=H) ?_ ?_
 .simp[F,M]
 rintro q G⟨F,_⟩a;obtain rfl:H=G:=a.symm;rw[iY];refine Ends.sq ?_;refine bp [(0,bd h v 0 n),(3,aa (1:Nat))] (fun G=>G=H) ?_ ?_
 .simp[F]
 rintro q G g a;obtain rfl:H=G:=a.symm;rw[eD]
 have ao:du (l.take 1)=l.take 1:=by
  rcases l with _|⟨am,an⟩
  .rfl
  .simp[du]
 have⟨ab,J⟩:=ak (l.map aC);have ad:ab.length=n:=by rw[<-J];simpa using hn
 have ae:∀i (K:i<l.length),ab[i]?=some [I l[i]]:=fun i K=>by rw[<-J,adn,aae K];rfl
 rw[J]at s;refine Ends.bl (gO (fun i:Nat=>[(0,bd h v 0 n),(3,aa i)]) (fun i G=>1<=i/\i<=n/\du (l.take i)=l.take i/\G=H) [] (fun i=>n-i) _ [0,3] (fun _=>rfl) ?_ 1 _ g ⟨by omega,by omega,ao,rfl⟩ rfl);rintro i ⟨q,G,w⟩ g ⟨g0,g2,A,a⟩ B;simp only at g g2 A B a;obtain rfl:H=G:=a.symm;subst B;simp at g;have⟨c,b⟩:=g;by_cases d:i<n
 case neg=>
  have K:i=n:=by omega
  have e:du l=l:=by rw[K, <-hn,aiv]at A;exact A
  rw[Z e,e,hn];simp[c,b,d]
 have hw:ads.wrap ((i:Int)+1)=((i+1:Nat):Int):=cr (by omega);have af:ads.wrap ((i:Int)-1)=((i-1:Nat):Int):=by rw[fC (by omega) (by omega)];omega
 have N:=ae i (by omega);have O:=ae (i-1) (by omega);have hd:i-1<n:=by omega
 have⟨ap,P⟩:=ak (l[i]'(by omega));have⟨aq,hy⟩:=ak (l[i-1]'(by omega));rw[P]at N;rw[hy]at O;have w:=Oo (l:=l) (i:=i) (by omega) (by omega);rw[P,hy]at w;by_cases e:ap=aq
 case neg=>rw[if_neg (ain e),A]at w;simp[-getElem?_pos,-aae,-ac7,c,b,d,s,N,O,ad,hw,af,hd,e];refine⟨i+1,by omega,rfl,by omega,by omega,?_⟩;rw[w,aiB,aae (by omega),P];rfl
 rw[if_pos e.symm,A]at w;subst e;have ax:n-i+i=n:=by omega
 refine ef (fun S=>S.env.get 0=some (bd h v 0 n)/\S.env.get 3=some (aa i)/\S.bH=[]/\S.heap=H) ?_ ?_
 .simp[c,b,d]
 rintro⟨q,G,C⟩⟨c,b,rfl,a⟩;simp only at c b a;obtain rfl:H=G:=a.symm;rw[iY];refine Ends.sq ?_;rw[eD];refine Ends.bl ?_;rw[iY];refine Ends.sq ?_;refine(Ends.mono (Q:=fun ex S=>ex= .normal/\S.env.get 0=some (bd h v 0 n)/\S.env.get 3=some (aa i)/\S.env.get 25=some (aR true)/\S.bH=[]/\S.heap=H) ?_ ?_)
 .simp[-getElem?_pos,-aae,c,b,d,s,N,O,ad,af,hd]
 rintro ex⟨q,G,C⟩⟨rfl,c,b,R,rfl,a⟩;simp only at c b R a;obtain rfl:H=G:=a.symm;simp only[];rw[Xq,R,V3,if_pos rfl];refine ef (fun S=>S.env.get 0=some (bd h v 0 n)/\S.env.get 3=some (aa i)/\S.env.get 4=some (bd h v i (n-i))/\S.bH=[]/\S.heap=H) ?_ ?_
 .have e1:i<=n:=by omega
  simp[c,b,s,e1]
 rintro⟨q,G,C⟩⟨c,b,x,rfl,a⟩;simp only at c b x a;obtain rfl:H=G:=a.symm;refine ef (fun S=>S.bH=[]/\∃f:List Int,S.env.get 0=some (bd h v 0 n)/\S.env.get 3=some (aa (du l).length)/\f.length=n/\f.take (du l).length=du l/\S.heap=H.set h (.live v 1 (f.map aC))) ?_ ?_
 .refine ef (fun S=>Has S.env [(0,bd h v 0 n),(4,bd h v i (n-i)),(3,aa i),(5,aa (1:Nat))]/\S.bH=[]/\S.heap=H) ?_ ?_
  .simp[c,b,x]
  rintro⟨q,G,C⟩⟨g,rfl,a⟩;simp only at g a;obtain rfl:H=G:=a.symm;rw[eD];have ar:(l.take i).length=i:=by rw[aiV];omega
  refine Ends.bl (gO (fun p:Nat×Nat=>[(0,bd h v 0 n),(4,bd h v i (n-i)),(3,aa p.2),(5,aa p.1)]) (fun p G=>1<=p.1/\p.1<=n-i/\p.2=(du (l.take (i+p.1))).length/\p.2<=i+p.1-1/\∃f:List Int,f.length=n/\f.take p.2=du (l.take (i+p.1))/\(∀m,i+p.1-1<=m->f[m]?=l[m]?)/\G=H.set h (.live v 1 (f.map aC))) [] (fun p=>n-p.1) _ [0,4,3,5] (fun _=>rfl) ?_ (1,i) _ g ⟨by omega,by omega,by rw[w,ar],by omega,l,hn,w.symm,fun _ _=>rfl,by rw[J];exact(lP s).symm⟩ rfl);clear g c b x R;rintro⟨j,k⟩ ⟨q,G,C⟩ g ⟨j1,j2,j3,j4,f,t,r,D,a⟩ B;simp only at g j1 j2 j3 j4 t r D B a;subst B;simp at g;have⟨c,x,b,T⟩:=g;have y:G[h]?=some (.live v 1 (f.map aC)):=by rw[a];exact ba s
  have⟨z,o⟩:=ak (f.map aC);have L:z.length=n:=by rw[<-o];simpa using t
  rw[o]at y;by_cases U:j<n-i
  case neg=>
   have hj:i+j=n:=by omega
   rw[hj, <-hn,aiv]at j3 r;have az:¬(j:Int)< ((n-i:Nat):Int):=by omega
   simp[c,b,x,T,U];exact⟨by rw[j3],f,t,by rw[<-j3];exact r,a⟩
  have ag:ads.wrap ((j:Int)+1)=((j+1:Nat):Int):=cr (by omega);have au:ads.wrap ((k:Int)+1)=((k+1:Nat):Int):=cr (by omega);have ah:ads.wrap ((j:Int)-1)=((j-1:Nat):Int):=by rw[fC (by omega) (by omega)];omega
  have q1:(i+j)<l.length:=by omega
  have q2:i+(j-1)<l.length:=by omega
  have c1:z[i+j]?=some [I l[i+j]]:=by rw[<-o,adn,D (i+j) (by omega),aae q1];rfl
  have c2:z[i+(j-1)]?=some [I l[i+(j-1)]]:=by rw[<-o,adn,D (i+(j-1)) (by omega),aae q2];rfl
  have u:=Oo (l:=l) (i:=i+j) (by omega) q1;have e0:i+j-1=i+(j-1):=by omega
  simp only[e0]at u;have⟨x',ai⟩:=ak l[i+j];have⟨y',aj⟩:=ak (l[i+(j-1)]);rw[ai]at c1;rw[aj]at c2;rw[ai,aj]at u;have al:j-1<n-i:=by omega
  have V:k<n:=by omega
  have i1:i+j<n:=by omega
  have i2:i+(j-1)<n:=by omega
  by_cases e:x'=y'
  .rw[if_pos e.symm]at u;subst e;simp[-getElem?_pos,-aae,-ac7,c,b,x,T,U,al,y,c1,c2,L,i1,i2,ag,ah];have E:i+(j+1)=i+j+1:=by omega
   exact⟨j+1,by omega,k,⟨rfl,rfl⟩,by omega,by omega,by rw[E,u];exact j3,by omega,f,t,by rw[E,u];exact r,fun m hm=>D m (by omega),a⟩
  .rw[if_neg (ain e)]at u;have W:(f.map aC)[k]?=some [I (f[k]'(by omega))]:=by rw[adn,aae (by omega)];rfl
   rw[o]at W;have⟨aA,av⟩:=ak (f[k]'(by omega));rw[av]at W;simp[-getElem?_pos,-aae,-ac7,W,c,b,x,T,U,al,y,c1,c2,L,i1,i2,ag,ah,au,e,V];have E:i+(j+1)=i+j+1:=by omega
   refine⟨j+1,by omega,k+1,⟨rfl,rfl⟩,by omega,by omega,by rw[E,u,afu, <-j3];rfl,by omega,f.set k x',by simpa using t,?_,fun m hm=>?_,?_⟩
   .rw[E,u, <-r,aiB,afN (by omega),List.take_set_of_le (adt k)];rfl
   .rw[aay (by omega)];exact D m (by omega)
   .rw[a,ajB,aix,o];rfl
 rintro⟨q,G,C⟩⟨rfl,f,c,b,t,r,a⟩;simp only at c b t r a;have y:G[h]?=some (.live v 1 (f.map aC)):=by rw[a];exact ba s
 have⟨k,Y⟩:=ak ((du l).length);have kl:=yI l;rw[Y]at b r kl;have⟨z,o⟩:=ak (f.map aC);have L:z.length=n:=by rw[<-o];simpa using t
 rw[o]at y;have V:k<=n:=by omega
 rw[Y];have gs:∀X,(G.set h X)[h]?=some X:=fun X=>ba y;have fin:G.set h (.live v 1 (dt z k (ago (n-k) [I 0])))=u9 H h v n l:=by unfold u9 dt;rw[a,ajB,Y,agA, <-r,akH,o,List.map_replicate,aji (by simp;omega),aeo];rfl
 simp[-ac7,c,b,y,L,V,rJ,gs];exact fin
def Ae:tz.md 114=0:=by kernel_rfl
def QD(g:l.length<=1000000):aS tz ay 0 114 [.c (.eX (l.map aC))]=some (cy (cD l)):=by
 refine be func114 rfl ?_;have⟨n,hn⟩:=ak l.length;have d:=adN (rows:=l.map aC) (fun r i=>by obtain⟨x,_,rfl⟩:=aiE.1 i;rfl) (bi l) (by simpa using g);rw[ahL,hn]at d;have j:(gA l).length=n:=by rw[ED,hn]
 have k:=aaL (H:=[ah 1 (l.map aC)]) (h:=0) (v:=0) (n:=n) (l:=l) rfl hn (by omega);have a:=aa4 (H:=[ah 1 ((gA l).map aC)]) (h:=0) (v:=0) (n:=n) (l:=gA l) rfl j (by omega);have m:=bi l;have e:cD l=du (gA l):=rfl;have o:=yI (gA l);have⟨D,f⟩:=ak (du (gA l));rw[f]at e;unfold u9 at a;rw[f]at a o;rw[e];have p:aO tz ay 45 [.c (.eX (l.map aC))] []=some (bd 0 0 0 n,[ah 1 (l.map aC)]):=by simp[Pj,d,m]
 have q:aO tz ay 191 [bd 0 0 0 n] [ah 1 (l.map aC)]=some (.aM [],[ah 1 ((gA l).map aC)]):=k;have⟨Z,b⟩:=ak ((D++ago (n-D.length) (0:Int)).map aC);rw[b]at a;have s:aO tz ay 192 [bd 0 0 0 n] [ah 1 ((gA l).map aC)]=some (bd 0 0 0 D.length,[ah 1 Z]):=a;have t:D.length<=Z.length:=by rw[<-b];simp
 have u:Z.take D.length=D.map aC:=by rw[<-b,agA,aj6 (by simp),ach (by simp)]
 have w:=bi D;simp[-aD,-agA,f114,p,q,s,t,u,w]
def Su:aS tz ay 0 114 [.c ap]=some (.c ap,[]):=by
 refine be func114 rfl ?_;have a:aO tz ay 45 [.c ap] []=some (.c ap,[]):=by simp[Pj,Wv]
 have b:aO tz ay 191 [.c ap] []=some (.aM [],[]):=by rw[dz (f:=191) rfl,iw Fj,O3];rfl
 have d:aO tz ay 192 [.c ap] []=some (.c ap,[]):=by refine yw (by simp) ?_;refine te func192 rfl ?_;simp[f192]
 simp[-aD,f114,a,b,d]
def AE:∀(rows:List (List ab)) (l:List Int),oV rows=some l->rows=l.map aC
 |[],l,h=>by
  simp[oV]at h
  subst h;rfl
 |r::d,l,h=>by
  unfold oV at h
  split at h
  .rename_i e;cases e
  .rename_i n f e
   injection e with a b
   subst a
   subst b
   split at h
   .rename_i g c
    injection h with h
    subst h
    rw[AE _ _ c]
    rfl
   .cases h
  .cases h
def Bw(g:gS tz){i:List au}{r:au}{j:List Ob}(h:ny i H=some (r,j)):Call aaD 114 i H r j:=by
 unfold ny at h;split at h
 .rename_i a;split at h
  .rename_i l b;split at h
   .rename_i hc;injection h with h;injection h with m n;subst m;subst n;rw[aky]at hc;have hn:Call tz.P 114 [.c ap] [] (.c ap) []:=o9 g (by simp[Ae,Su]);unfold jp at b;split at b
    .rename_i x;split at b
     .rename_i rows d;have o:=AE _ _ b;subst o;have f:Call tz.P 114 [.c (.eX (l.map aC))] [] (bd 0 0 0 (cD l).length) [ah 1 ((cD l).map aC)]:=o9 g (by simp[Ae,QD hc,cy,bi]);have k:l=[]->Call tz.P 114 [.c ap] [] (bd 0 0 0 (cD l).length) [ah 1 ((cD l).map aC)]:=fun e=>by subst e;exact xK 1 hn
      unfold rowsOf at d;split at d
      .injection d with e;subst e;cases l with
       |nil=>exact QS (k rfl) f
       |cons y p=>exact Oy f
      .injection d with e;subst e;exact f
      .injection d with e
       have:l=[]:=by cases l with
        |nil=>rfl
        |cons y p=>cases e
       exact k this
      .cases d
     .cases b
    .cases b
   .cases h
  .cases h
 .cases h
end
section
variable{H:List Ob}{l:List Int}
def ahc{P:Program}{f:FuncId}{x:au}{r:au}{d:List Ob}(g:Call P f [.c ap,x] H r d)(m:Call P f [.c (.eX []),x] H r d):Call P f [bh [],x] H r d:=by
 refine⟨g.1,fun h i j n=>?_⟩;have⟨y,k,e,b,l⟩:=n;rcases b with⟨b,_⟩|⟨a,cap,o,b,p,q⟩
 .exact g.2 h i j ⟨y,k,e,⟨b,rfl⟩,l⟩
 .exact m.2 h i j ⟨y,k,e,⟨a,cap,o,b,p,q⟩,l⟩
def LL{d:Type}(p:d->Bool):∀(l:List d) (k:Nat),(dw p k l= -1/\∀x∈l,p x=false)\/∃i, ∃h:i<l.length,dw p k l=((k+i:Nat):Int)/\p l[i]=true/\∀x∈l.take i,p x=false
 |[],k=> .inl ⟨rfl,fun x h=>by simp at h⟩
 |x::r,k=>by
  unfold dw
  cases h:p x with
  |true=>exact .inr ⟨0,by simp,by simp,h,fun x h=>by simp at h⟩
  |false=>
   rcases LL p r (k+1)with⟨b,c⟩|⟨i,f,b,c,e⟩
   .refine .inl ⟨by simp[b],fun y a=>?_⟩
    rcases ae3.1 a with rfl|a
    .exact h
    .exact c y a
   .refine .inr ⟨i+1,by simp;omega,?_,c,fun y a=>?_⟩
    .simp only[aeb,if_false]
     rw[b];congr 1;omega
    .rw[alz]at a
     rcases ae3.1 a with rfl|a
     .exact h
     .exact e y a
def kH(p:Int->Bool)(l:List Int):List Int:=l.filter fun x=>!p x
def L3{p:Int->Bool}{j:Nat}(h:j<l.length):kH p (l.take (j+1))=if p l[j]=true then kH p (l.take j)else kH p (l.take j)++[l[j]]:=by unfold kH;rw[aiB,aae h,ajh];cases hp:p l[j]<;>simp[hp]
def uL(H:List Ob)(h v n:Nat)(l:List Int):List Ob:=H.set h (.live v 1 ((l++ago (n-l.length) (0:Int)).map aC))
def aez(p:Int->Bool)(l:List Int):(kH p l).length<=l.length:=ah2 ..
def T8{g:FuncId}{caps:List ab}{h v n:Nat}(p:Int->Bool)(hg:tz.md g≠3)(af:cw caps=true)(hc:∀(G:List Ob), ∀x∈l,aO tz ay g (aa x::caps.map .c) G=some (aR (p x),G))(u:H[h]?=some (.live v 1 (l.map aC)))(hn:l.length=n)(hl:n<=1000000):
  aO tz ay 299 [bd h v 0 n,.c (.bG g caps)] H=some (bd h v 0 (kH p l).length,uL H h v n (kH p l)):=by
 have Y:=bi l
 have Z:=WO (g:=g) (caps:=caps) l (by unfold maxLen;omega) p (fun x r=>hc [] x r)
 refine yw (by simp) ?_
 refine te func299 rfl ?_
 simp only[f299,bX]
 have⟨R,F⟩:=ak (l.map aC)
 have ag:R.length=n:=by rw[<-F];simpa using hn
 rw[F]at u Z Y
 have tk:R.take n=R:=ach (by omega)
 refine bp [(0,bd h v 0 n),(1,.c (.bG g caps))] (fun G=>G=H) ?_ ?_
 .simp
 rintro A G⟨w,B,_⟩b
 obtain rfl:H=G:=b.symm
 refine bp [(0,bd h v 0 n),(1,.c (.bG g caps)),(5,aa (dw p 0 l))] (fun G=>G=H) ?_ ?_
 .simp[w,B,hg,u,ag,tk,Y,af,Z]
 rintro A G⟨w,B,y,_⟩b
 obtain rfl:H=G:=b.symm
 rcases LL p l 0 with⟨J,N⟩|⟨i,hi,J,N,i3⟩
 .have ah:kH p l=l:=ajn.2 fun x r=>by simp[N x r]
  have hd:uL H h v n l=H:=by
   unfold uL
   rw[hn,ajx]
   simp only[alA,aeo,F]
   exact lP u
  rw[J]at y
  rw[ah,hd,hn]
  simp[w,y]
 rw[aiQ]at J
 rw[J]at y
 have c0:¬(i:Int)= -1:=by omega
 have et:kH p (l.take i)=l.take i:=ajn.2 fun x r=>by simp[i3 x r]
 have ai:(l.take i).length=i:=by rw[aiV];omega
 refine bp [(0,bd h v 0 n),(1,.c (.bG g caps)),(5,aa i)] (fun G=>G=H) ?_ ?_
 .simp[w,B,y,c0]
 rintro A G⟨w,B,y,_⟩b
 obtain rfl:H=G:=b.symm
 refine ef (fun S=>S.bH=[]/\∃a:List Int,S.env.get 0=some (bd h v 0 n)/\S.env.get 5=some (aa (kH p l).length)/\a.length=n/\a.take (kH p l).length=kH p l/\S.heap=H.set h (.live v 1 (a.map aC))) ?_ ?_
 .refine bp [(0,bd h v 0 n),(1,.c (.bG g caps)),(5,aa i),(6,aa (i+1:Nat))] (fun G=>G=H) ?_ ?_
  .have hw:ads.wrap ((i:Int)+1)=((i+1:Nat):Int):=cr (by omega)
   simp[-ac7,w,B,y,hw]
  rintro A G C b
  obtain rfl:H=G:=b.symm
  rw[eD]
  have O:=L3 (p:=p) hi
  rw[if_pos N,et]at O
  refine Ends.bl (gO (fun q:Nat×Nat=>[(0,bd h v 0 n),(1,.c (.bG g caps)),(5,aa q.2),(6,aa q.1)]) (fun q G=>q.1<=n/\q.2=(kH p (l.take q.1)).length/\q.2<q.1/\∃a:List Int,a.length=n/\a.take q.2=kH p (l.take q.1)/\(∀m,q.1<=m->a[m]?=l[m]?)/\G=H.set h (.live v 1 (a.map aC))) [] (fun q=>n-q.1) _ [0,1,5,6] (fun _=>rfl) ?_ (i+1,i) _ C ⟨by omega,by rw[O,ai],by omega,l,hn,O.symm,fun _ _=>rfl,by rw[F];exact(lP u).symm⟩ rfl)
  rintro⟨j,k⟩⟨A,G,aj⟩C⟨j2,j3,j4,a,f,d,K,b⟩g5
  simp only at C j2 j3 j4 f d K g5 b
  subst g5
  simp at C
  have⟨z,b1,o,P⟩:=C
  have s:G[h]?=some (.live v 1 (a.map aC)):=by rw[b];exact ba u
  have⟨D,e⟩:=ak (a.map aC)
  have L:D.length=n:=by rw[<-e];simpa using f
  rw[e]at s
  by_cases Q:j<n
  case neg=>
   have hj:j=n:=by omega
   rw[hj, <-hn,aiv]at j3 d
   simp[z,o,P,Q]
   exact⟨by rw[j3],a,f,by rw[<-j3];exact d,b⟩
  have T:j<l.length:=by omega
  have ad:ads.wrap ((j:Int)+1)=((j+1:Nat):Int):=cr (by omega)
  have al:ads.wrap ((k:Int)+1)=((k+1:Nat):Int):=cr (by omega)
  have c1:D[j]?=some [I l[j]]:=by rw[<-e,adn,K j (adt _),aae T];rfl
  have t:=L3 (p:=p) T
  have E:=fun G=>hc G l[j] (air T)
  have⟨x,r⟩:=ak l[j]
  rw[r]at c1 t E
  have U:k<n:=by omega
  have V:(a.map aC)[k]?=some [I (a[k]'(by omega))]:=by rw[adn,aae (by omega)];rfl
  rw[e]at V
  have⟨an,am⟩:=ak (a[k]'(by omega))
  rw[am]at V
  cases M:p x with
  |true=>
   rw[if_pos M]at t
   rw[M]at E
   simp[-aD,-getElem?_pos,-aae,-ac7,z,b1,o,P,Q,s,c1,L,ad,E]
   exact⟨j+1,by omega,k,⟨rfl,rfl⟩,by omega,by rw[t];exact j3,by omega,a,f,by rw[t];exact d,fun m hm=>K m (by omega),b⟩
  |false=>
   rw[if_neg (by rw[M];decide)]at t
   rw[M]at E
   simp[-aD,-getElem?_pos,-aae,-ac7,z,b1,o,P,Q,s,c1,L,ad,al,E,V,U]
   refine⟨j+1,by omega,k+1,⟨rfl,rfl⟩,by omega,by rw[t,afu, <-j3];rfl,by omega,a.set k x,by simpa using f,?_,fun m hm=>?_,?_⟩
   .rw[t, <-d,aiB,afN (by omega),List.take_set_of_le (adt k)]
    rfl
   .rw[aay (by omega)];exact K m (by omega)
   .rw[b,ajB,aix,e];rfl
 rintro⟨A,G,aj⟩⟨rfl,a,z,o,f,d,b⟩
 simp only at z o f d b
 have s:G[h]?=some (.live v 1 (a.map aC)):=by rw[b];exact ba u
 have kl:=aez p l
 have⟨ae,hK⟩:=ak (kH p l)
 rw[hK]at o d kl|-
 have⟨k,W⟩:=ak ae.length
 rw[W]at o d kl
 have⟨D,e⟩:=ak (a.map aC)
 have L:D.length=n:=by rw[<-e];simpa using f
 rw[e]at s
 have U:k<=n:=by omega
 have gs:∀X,(G.set h X)[h]?=some X:=fun X=>ba s
 have fin:G.set h (.live v 1 (dt D k (ago (n-k) [I 0])))=uL H h v n ae:=by
  unfold uL dt
  rw[b,ajB,W,agA, <-d,akH,e,List.map_replicate,aji (by simp;omega),aeo]
  rfl
 rw[W]
 simp[-ac7,z,o,s,L,U,rJ,gs]
 exact fin
end
section
variable{P:Program}{f g:FuncId}{a r:au}{H H':List Ob}{caps:List ab}{la:ab}{l:List Int}
def YQ{rows:List (List ab)}(h:Call P f [a,bh rows] H r H'):Call P f [a,.c (.eX rows)] H r H':=by refine⟨h.1,fun d g i j=>?_⟩;have⟨y,k,e,l,z,m,n,⟨b,cap,o,p⟩,q⟩:=j;exact h.2 d g i ⟨y,k,e,l,z,m,n,.inr ⟨b,cap,o,p⟩,q⟩
def TC(h:Call P f [a,bh []] H r H'):Call P f [a,.c ap] H r H':=by refine⟨h.1,fun b d g i=>?_⟩;have⟨y,j,e,k,z,l,m,n,o⟩:=i;exact h.2 b d g ⟨y,j,e,k,z,l,m,.inl ⟨n.1,rfl⟩,o⟩
def Yo(G:List Ob)(m:List Int)(hm:m.length<=1000000)(x:Int):aO tz ay 257 [aa x,.c (.aK [[.aj (m.map aC)]] 0 0)] G=some (aR (!decide (x∈m)),G):=by
 have a:=qv m x (by unfold maxLen;omega);unfold aG at a;have b:=bi m;have h:aS tz ay 0 257 [aa x,.c (.aK [[.aj (m.map aC)]] 0 0)]=some (aR (!decide (x∈m)),[]):=by refine be func257 rfl ?_;have⟨R,d⟩:=ak (m.map aC);rw[d]at a b|-;simp[f257,a,b]
 simp[h,b,bA]
def aes(G:List Ob)(m:List Int)(hm:m.length<=1000000)(x:Int):aO tz ay 255 [aa x,.c (.aK [[.aj (m.map aC)]] 0 0)] G=some (aR (decide (x∈m)),G):=by
 have a:=qv m x (by unfold maxLen;omega);unfold aG at a;have b:=bi m;have h:aS tz ay 0 255 [aa x,.c (.aK [[.aj (m.map aC)]] 0 0)]=some (aR (decide (x∈m)),[]):=by refine be func255 rfl ?_;have⟨R,d⟩:=ak (m.map aC);rw[d]at a b|-;simp[f255,a,b]
 simp[h,b,bA]
def adH(b:tz.md g≠3)(a:cw caps=true)(q:Int->Bool)(x:Int)(hc:∀G,aO tz ay g (aa x::caps.map .c) G=some (aR (q x),G))(G:List Ob):aO tz ay 300 [aa x,.c (.aK [[.bG g caps]] 0 0)] G=some (aR (!q x),G):=by
 have h:aS tz ay 0 300 [aa x,.c (.aK [[.bG g caps]] 0 0)]=some (aR (!q x),[]):=by refine be func300 rfl ?_;simp[-aD,f300,hc]
 simp[h,a,bA]
def NM(u:bD la=true)(i:tz.md g≠3)(d:cw caps=true)(q:Int->Bool)(w:l.length<=1000000)(e:aO tz ay 114 [.c la] []=some (bd 0 0 0 (cD l).length,[ah 1 ((cD l).map aC)]))(hc:∀G x,aO tz ay g (aa x::caps.map .c) G=some (aR (q x),G)):
  aS tz ay 0 254 [.c la,.c (.bG g caps)]=some (cy ((cD l).filter q)):=by
 refine be func254 rfl ?_
 have f:(cD l).length<=1000000:=by have:=EF l;omega
 have⟨S,j⟩:=ak (cD l)
 rw[j]at e f|-
 have a:=T8 (g:=300) (caps:=[.aK [[.bG g caps]] 0 0]) (H:=[ah 1 (S.map aC)]) (h:=0) (v:=0) (n:=S.length) (l:=S) (fun x=>!q x) (by rw[(show tz.md 300=0 from rfl)];decide) (by simp[cw,bD,bA,d]) (fun G x _=>adH i d q x (fun G=>hc G x) G) rfl rfl f
 have k:kH (fun x=>!q x) S=S.filter q:=by unfold kH;congr 1;funext x;simp
 unfold uL at a
 rw[k]at a
 have m:(S.filter q).length<=S.length:=ah2 ..
 have⟨D,o⟩:=ak (S.filter q)
 rw[o]at a m|-
 have⟨Z,b⟩:=ak ((D++ago (S.length-D.length) (0:Int)).map aC)
 rw[b]at a
 have p:aO tz ay 299 [bd 0 0 0 S.length,.c (.bG 300 [.aK [[.bG g caps]] 0 0])] [ah 1 (S.map aC)]=some (bd 0 0 0 D.length,[ah 1 Z]):=a
 have r:D.length<=Z.length:=by rw[<-b];simp
 have s:Z.take D.length=D.map aC:=by rw[<-b,agA,aj6 (by simp),ach (by simp)]
 have t:=bi D
 simp[-aD,f254,e,p,r,s,t]
def aeI{m:List Int}(a:bD la=true)(d:∀g caps,la≠ .bG g caps)(f:l.length<=1000000)(hm:m.length<=1000000)(i:aO tz ay 114 [.c la] []=some (bd 0 0 0 (cD l).length,[ah 1 ((cD l).map aC)])):
  aO tz ay 254 [.c la,.c (.bG 257 [.aK [[.aj (m.map aC)]] 0 0])] []=some (bd 0 0 0 (gH l m).length,[ah 1 ((gH l m).map aC)]):=by
 have b:=bi m
 have h:=NM (g:=257) (caps:=[.aK [[.aj (m.map aC)]] 0 0]) a (by rw[(show tz.md 257=0 from rfl)];decide) (by simp[cw,bD,bA,b]) (fun x=>!decide (x∈m)) f i (fun G x=>Yo G m hm x)
 have j:(cD l).filter (fun x=>!decide (x∈m))=gH l m:=rfl
 rw[j]at h
 have k:=bi (gH l m)
 have n:eQ tz (.c la)=false:=by
  unfold eQ
  split
  .rename_i g caps e
   injection e with e
   exact absurd e (d g caps)
  .rfl
 simp[-eQ,n,a,b,bA,h,cy,k]
 simp[eQ]
def Wx{m:List Int}(a:bD la=true)(d:∀g caps,la≠ .bG g caps)(f:l.length<=1000000)(hm:m.length<=1000000)(i:aO tz ay 114 [.c la] []=some (bd 0 0 0 (cD l).length,[ah 1 ((cD l).map aC)])):
  aO tz ay 254 [.c la,.c (.bG 255 [.aK [[.aj (m.map aC)]] 0 0])] []=some (bd 0 0 0 (ke l m).length,[ah 1 ((ke l m).map aC)]):=by
 have b:=bi m
 have h:=NM (g:=255) (caps:=[.aK [[.aj (m.map aC)]] 0 0]) a (by rw[(show tz.md 255=0 from rfl)];decide) (by simp[cw,bD,bA,b]) (fun x=>decide (x∈m)) f i (fun G x=>aes G m hm x)
 have j:(cD l).filter (fun x=>decide (x∈m))=ke l m:=rfl
 rw[j]at h
 have k:=bi (ke l m)
 have n:eQ tz (.c la)=false:=by
  unfold eQ
  split
  .rename_i g caps e
   injection e with e
   exact absurd e (d g caps)
  .rfl
 simp[-eQ,n,a,b,bA,h,cy,k]
 simp[eQ]
end
section
variable{l:List Int}{la:ab}{g:FuncId}{caps:List ab}
def LC(a:l.length<=1000000):aO tz ay 114 [.c (.eX (l.map aC))] []=some (bd 0 0 0 (cD l).length,[ah 1 ((cD l).map aC)]):=by simp[Ae,QD a,cy,bi]
def afr{m:List Int}(e:bD la=true)(f:∀g caps,la≠ .bG g caps)(i:l.length<=1000000)(hm:m.length<=1000000)(j:aO tz ay 114 [.c la] []=some (bd 0 0 0 (cD l).length,[ah 1 ((cD l).map aC)])):aS tz ay 0 190 [.c la,bh (m.map aC)]=some (cy (gH l m)):=by refine be func190 rfl ?_;have h:=aeI e f i hm j;have a:=bi (gH l m);have⟨D,b⟩:=ak (gH l m);have⟨M,d⟩:=ak (m.map aC);rw[b,d]at h;rw[b]at a|-;rw[d];simp[-aD,f190,h,a]
def ag9{m:List Int}(e:bD la=true)(f:∀g caps,la≠ .bG g caps)(i:l.length<=1000000)(hm:m.length<=1000000)(j:aO tz ay 114 [.c la] []=some (bd 0 0 0 (cD l).length,[ah 1 ((cD l).map aC)])):aS tz ay 0 185 [.c la,bh (m.map aC)]=some (cy (ke l m)):=by refine be func185 rfl ?_;have h:=Wx e f i hm j;have a:=bi (ke l m);have⟨D,b⟩:=ak (ke l m);have⟨M,d⟩:=ak (m.map aC);rw[b,d]at h;rw[b]at a|-;rw[d];simp[-aD,f185,h,a]
def Y0:aS tz ay 0 235 [.c ap,.c (.bG g caps)]=some (aa (-1),[]):=by
 refine be func235 rfl ?_;simp only[f235,bX];refine bp [(0,.c ap)] (fun G=>G=[]) ?_ ?_
 .simp
 rintro a G⟨b,_⟩rfl;rw[iY];refine Ends.sq ?_;refine bp [(7,aa 0),(8,aa 0)] (fun G=>G=[]) ?_ ?_
 .simp[b]
 rintro a G d rfl;rw[eD];refine im (fun _:Nat=>[(7,aa 0),(8,aa 0)]) (fun _ G=>G=[]) (fun j=>j) ?_ 0 d rfl fun _=>rfl;rintro j a G ⟨e,f,_⟩ rfl;simp[e,f]
def OA(b:tz.md g≠3)(a:cw caps=true):aO tz ay 254 [.c ap,.c (.bG g caps)] []=some (.c ap,[]):=by
 have d:=Y0 (g:=300) (caps:=[.aK [[.bG g caps]] 0 0]);have e:aO tz ay 114 [.c ap] []=some (.c ap,[]):=by simp[Ae,Su]
 have f:aO tz ay 299 [.c ap,.c (.bG 300 [.aK [[.bG g caps]] 0 0])] []=some (.c ap,[]):=by refine yw (by simp) ?_;refine te func299 rfl ?_;simp[f299,d,a,bA]
 have h:aS tz ay 0 254 [.c ap,.c (.bG g caps)]=some (.c ap,[]):=by refine be func254 rfl ?_;simp[-aD,f254,e,f]
 simp[b,a,h]
end
section
variable{f:FuncId}{H H':List Ob}{r:au}{vs:List au}{m:List Int}
def Nf{a:au}{l:List Int}(h:jp a=some l):a=bh (l.map aC)\/a= .c (.eX (l.map aC))\/(a= .c ap/\l=[]):=by
 unfold jp at h;split at h
 .rename_i x;split at h
  .rename_i rows b;have d:=AE _ _ h;subst d;unfold rowsOf at b;split at b
   .injection b with e;subst e;exact .inl rfl
   .injection b with e;subst e;exact .inr (.inl rfl)
   .injection b with e
    have:l=[]:=by cases l with
     |nil=>rfl
     |cons y f=>cases e
    exact .inr (.inr ⟨rfl,this⟩)
   .cases b
  .cases h
 .cases h
def agJ{P:Program}{x:au}{q:List ab}{rows:List (List ab)}(d:Call P f [.c (.eX (q::rows)),x] H r H'):Call P f [bh (q::rows),x] H r H':=by
 refine⟨d.1,fun g h i j=>?_⟩;have⟨y,k,e,b,l⟩:=j;rcases b with⟨_,b⟩|⟨a,cap,m,b,n,o⟩
 .cases b
 .exact d.2 g h i ⟨y,k,e,⟨a,cap,m,b,n,o⟩,l⟩
def MB{F:List Int->List Int->List Int}(d:∀l m:List Int,l.length<=100000->m.length<=100000->Call aaD f [.c (.eX (l.map aC)),bh (m.map aC)] [] (cy (F l m)).1 (cy (F l m)).2)
  (hn:∀m:List Int,m.length<=100000->Call aaD f [.c ap,bh (m.map aC)] [] (cy (F [] m)).1 (cy (F [] m)).2) (h:ka F vs H=some (r,H')):Call aaD f vs H r H':=by
 unfold ka at h
 split at h
 .rename_i a b
  split at h
  .rename_i l m e hm
   split at h
   .rename_i hc
    simp only[aa2,aky]at hc
    injection h with h
    have g:(cy (F l m)).1=r:=by rw[h]
    have i:(cy (F l m)).2=H':=by rw[h]
    subst g i
    have first:Call aaD f [a,bh (m.map aC)] [] (cy (F l m)).1 (cy (F l m)).2:=by
     rcases Nf e with rfl|rfl|⟨rfl,rfl⟩
     .cases l with
      |nil=>exact ahc (hn m hc.2) (d [] m hc.1 hc.2)
      |cons x j=>exact agJ (d (x::j) m hc.1 hc.2)
     .exact d l m hc.1 hc.2
     .exact hn m hc.2
    rcases Nf hm with rfl|rfl|⟨rfl,rfl⟩
    .exact first
    .exact YQ first
    .exact TC first
   .cases h
  .cases h
 .cases h
def ac3:aS tz ay 0 190 [.c ap,bh (m.map aC)]=some (.c ap,[]):=by refine be func190 rfl ?_;have a:=bi m;have h:=OA (g:=257) (caps:=[.aK [[.aj (m.map aC)]] 0 0]) (by rw[(show tz.md 257=0 from rfl)];decide) (by simp[cw,bD,bA,a]);have⟨M,b⟩:=ak (m.map aC);rw[b]at h|-;simp[-aD,f190,h]
def adj:aS tz ay 0 185 [.c ap,bh (m.map aC)]=some (.c ap,[]):=by refine be func185 rfl ?_;have a:=bi m;have h:=OA (g:=255) (caps:=[.aK [[.aj (m.map aC)]] 0 0]) (by rw[(show tz.md 255=0 from rfl)];decide) (by simp[cw,bD,bA,a]);have⟨M,b⟩:=ak (m.map aC);rw[b]at h|-;simp[-aD,f185,h]
def MN:tz.md 190=0:=by kernel_rfl
def Sj:tz.md 185=0:=by kernel_rfl
def acb(m:List Int):gH [] m=[]:=rfl
def adI(m:List Int):ke [] m=[]:=rfl
def afI(a:gS tz)(h:ka gH vs H=some (r,H')):Call aaD 190 vs H r H':=by
 refine MB (fun l m b hm=>o9 a ?_) (fun m hm=>?_) h
 .have:=afr (la:= .eX (l.map aC)) (l:=l) (m:=m) (by simp[bD,bi]) (fun g c e=>by cases e) (by omega) (by omega) (LC (by omega));simp[MN,this,cy,bi]
 .rw[acb];exact xK 1 (o9 a (by simp[MN,ac3,bi]))
def WK(a:gS tz)(h:ka ke vs H=some (r,H')):Call aaD 185 vs H r H':=by
 refine MB (fun l m b hm=>o9 a ?_) (fun m hm=>?_) h
 .have:=ag9 (la:= .eX (l.map aC)) (l:=l) (m:=m) (by simp[bD,bi]) (fun g c e=>by cases e) (by omega) (by omega) (LC (by omega));simp[Sj,this,cy,bi]
 .rw[adI];exact xK 1 (o9 a (by simp[Sj,adj,bi]))
end
instance iW6:W:=W2
section
variable{H H':List Ob}{r:au}{l:List Int}{Γ:az}{y:Value}
def Ot{P:Program}{f:FuncId}{args args':List au}(c:∀Γ b,bU Γ args b->bU Γ args' b)(h:Call P f args' H r H'):Call P f args H r H':=⟨h.1,fun Γ d a hc=>h.2 Γ d a (c Γ _ hc)⟩
def RT{l:ab}{rows:List (List ab)}(h:rowsOf l=some rows)(hc:aB Γ l y):aB Γ (.aj rows) y:=by
 unfold rowsOf at h;split at h
 .cases h;exact hc
 .cases h;simp only[aB]at hc|-;exact .inr hc
 .cases h;simp only[aB]at hc|-;exact .inl ⟨hc.1,trivial⟩
 .cases h
def QB{a:au}(h:jp a=some l)(hc:aL Γ a y):aL Γ (bh (l.map aC)) y:=by
 unfold jp at h;split at h
 .split at h
  .rename_i rows b;rw[AE _ _ h]at b;exact RT b hc
  .cases h
 .cases h
def Lu:tz.dG 114=true:=by kernel_rfl
def Mq:tz.md 114=0:=by kernel_rfl
def MG:tz.dH 114=ny:=by kernel_rfl
def aba(l:List Int):jp (bh (l.map aC))=some l:=by simp[jp,rowsOf,zW]
def Sp{h v n:Nat}(a:H[h]?=some (.live v 1 (l.map aC)))(hn:l.length=n)(i:n<=1000000):aO tz ay 114 [bd h v 0 n] H=some (bd H.length 0 0 (cD l).length,H++[ah 1 ((cD l).map aC)]):=by
 have b:aS tz ay 0 114 [bh (l.map aC)]=some (cy (cD l)):=by
  unfold aS ay;rw[iw Lu,MG];have e:l.length<=1000000:=by omega
  simp[ny,aba,cy,e,bi]
 have c:=bi l;have j:=bi (cD l);have⟨L,d⟩:=ak (l.map aC);have f:L.length=n:=by rw[<-d];simpa using hn
 rw[d]at b a c;have g:L.take n=L:=ach (by omega);simp[Mq,a,f,g,c,b,cy]
def Xi{n:Nat}(a:0<n)(g:n<=1000000):aS tz ay 0 355 [.c ap,aa n]=some (bd 0 0 0 0,[ah 1 []]):=by
 refine be func355 rfl ?_;have b:¬((n:Int)<0):=by omega
 have h:(0:Int)<n:=by omega
 have d:ads.wrap 0=0:=by decide
 have w1:ads.wrap (n:Int)=n:=by rw[wrap_i64]<;>omega
 have i:n≠0:=by omega
 have j:n<=maxLen:=by unfold maxLen;omega
 have e:n*8<=140737488355328:=by omega
 have f:(n:Int)<=9223372036854775807:=by omega
 simp[f355,b,d,w1,rZ,e,f,a]
def UU:aS tz ay 0 355 [.c ap,aa 0]=some (.c ap,[]):=by
 refine be func355 rfl ?_;have a:ads.wrap 0=0:=by decide
 simp[f355,a]
def abR{m:List Int}(U:l.length<=100000)(hm:m.length<=100000):aS tz ay 0 344 [bh [[.aj (l.map aC)],[.aj (m.map aC)]]]=some (bd 0 0 0 (l++m).length,[ah 1 ((l++m).map aC)]):=by
 refine be func344 rfl ?_;simp only[f344,bX];have V:=bi l;have W:=bi m;have⟨L,h⟩:=ak (l.map aC);have⟨M,i⟩:=ak (m.map aC);have⟨a,A⟩:=ak l.length;have⟨b,B⟩:=ak m.length;have k:L.length=a:=by rw[<-h];simpa using A
 have v:M.length=b:=by rw[<-i];simpa using B
 have X:∀r∈L,r.length=1:=fun r o=>by rw[<-h]at o;obtain⟨x,_,rfl⟩:=aiE.1 o;rfl
 have Y:∀r∈M,r.length=1:=fun r o=>by rw[<-i]at o;obtain⟨x,_,rfl⟩:=aiE.1 o;rfl
 rw[agA,afu,h,i,A,B];rw[h]at V;rw[i]at W;rw[A]at U;rw[B]at hm;refine bp [(0,bh [[.aj L],[.aj M]])] (fun G=>G=[]) ?_ ?_
 .simp
 rintro e G⟨f,_⟩rfl;refine bp [(0,bh [[.aj L],[.aj M]]),(3,aa (0:Nat))] (fun G=>G=[]) ?_ ?_
 .simp[f]
 rintro e G⟨f,C,_⟩rfl;refine bp [(0,bh [[.aj L],[.aj M]]),(3,aa (a+b:Nat))] (fun G=>G=[]) ?_ ?_
 .refine ef (fun S=>Has S.env [(0,bh [[.aj L],[.aj M]]),(3,aa (0:Nat)),(9,bh [[.aj L],[.aj M]]),(10,aa (2:Nat)),(11,aa (0:Nat))]/\S.bH=[]/\S.heap=[]) ?_ ?_
  .simp[f,C]
  rintro⟨e,G,D⟩⟨d,rfl,rfl⟩;simp only at d;rw[eD];refine Ends.bl (gO (fun x:Nat×Nat=>[(0,bh [[.aj L],[.aj M]]),(3,aa x.2),(9,bh [[.aj L],[.aj M]]),(10,aa (2:Nat)),(11,aa x.1)]) (fun x G=>((x.1=0/\x.2=0)\/(x.1=1/\x.2=a)\/(x.1=2/\x.2=a+b))/\G=[]) [] (fun x=>2-x.1) _ [0,3,9,10,11] (fun _=>rfl) ?_ (0,0) _ d ⟨.inl ⟨rfl,rfl⟩,rfl⟩ rfl);rintro⟨j,t⟩ ⟨e,G,D⟩ d ⟨p,rfl⟩ q;simp only at d p q;subst q;simp at d;have⟨E,F,Q,H,I⟩:=d;have w1:ads.wrap ((a:Int)+b)=((a+b:Nat):Int):=by rw[wrap_i64]<;>omega
  have w2:ads.wrap (a:Int)=(a:Int):=by rw[wrap_i64]<;>omega
  have Z:¬((a:Int)<0):=by omega
  have n2:¬(((a+b:Nat):Int)<0):=by omega
  rcases p with⟨rfl,rfl⟩|⟨rfl,rfl⟩|⟨rfl,rfl⟩
  .simp[-ac7,E,F,Q,H,I,k,w2,Z];exact⟨1,by omega,_,⟨rfl,by decide⟩,.inr (.inl ⟨rfl,rfl⟩)⟩
  .simp[-ac7,E,F,Q,H,I,v,w1,n2];exact⟨2,by omega,_,⟨rfl,by decide⟩,.inr (.inr ⟨rfl,rfl⟩)⟩
  .simp[-ac7,E,F,H,I]
 rintro e G⟨f,C,_⟩rfl
 obtain⟨g,w,s,y,z,u,hq,bm,bj,f3⟩:∃(g w s:ab) (y z u:List Ob),aO tz ay 355 [.c ap,aa (a+b:Nat)] []=some (.c g,y)/\pw aaD y 30 30 g (.aj L)=some (.c w,z)/\pw aaD z 30 30 w (.aj M)=some (.c s,u)/\
   dF false u (.c s)=some (bd 0 0 0 (a+b),[ah 1 (L++M)]):=by
  have ad:bA (L++M)=true:=by rw[<-h, <-i, <-agA];exact bi _
  have m1:(∀r:List ab,r∈L->r.length=1)=True:=eq_true X
  have m2:(∀r:List ab,r∈M->r.length=1)=True:=eq_true Y
  have k1:a+b<=maxLen:=by unfold maxLen;omega
  have k2:(a+b)*8<=140737488355328:=by omega
  have k3:a<=maxLen:=by unfold maxLen;omega
  have k4:a*8<=140737488355328:=by omega
  have k5:(a+b<=a/\0<b)=False:=eq_false (by omega)
  have k6:(a=0/\0<a)=False:=eq_false (by omega)
  have t1:L.take a=L:=ach (by omega)
  have t2:(L++M).take (a+b)=L++M:=ach (by rw[afu];omega)
  have ae:(L++M).length=a+b:=by rw[afu,k,v]
  by_cases hz:a+b=0
  .obtain rfl:a=0:=by omega
   obtain rfl:b=0:=by omega
   obtain rfl:L=[]:=ae4 k
   obtain rfl:M=[]:=ae4 v
   refine⟨ap,.sl 0 0 0 0,.sl 0 1 0 0,[],[ah 1 []],[.live 1 1 []],?_,?_,?_,?_⟩
   .simp[UU]
   .simp
   .simp
   .simp
  .have af:=Xi (n:=a+b) (by omega) (by omega)
   refine⟨.sl 0 0 0 0,.sl 0 1 0 a,.sl 0 2 0 (a+b),[ah 1 []],[.live 1 1 L],[.live 2 1 (L++M)],?_,?_,?_,?_⟩
   .simp[-ac7,af]
   .simp[k,m1,k3,k4,k6]
   .simp[k,v,m2,k1,k2,k5,t1]
   .simp[-afu,ae,t2,ad]
 refine bp [(0,bh [[.aj L],[.aj M]]),(6,.c g)] (fun G=>G=y) ?_ ?_
 .simp[-aD,-ac7,f,C,hq]
 rintro e G⟨f,J,_⟩rfl;refine bp [(6,.c s)] (fun G=>G=u) ?_ ?_
 .refine ef (fun S=>Has S.env [(6,.c g),(25,bh [[.aj L],[.aj M]]),(26,aa (2:Nat)),(27,aa (0:Nat))]/\S.bH=[]/\S.heap=G) ?_ ?_
  .simp[f,J]
  rintro⟨e,G',D⟩⟨d,rfl,R⟩;simp only at d R;subst R;rw[eD];refine Ends.bl (gO (fun x:Nat×ab=>[(6,.c x.2),(25,bh [[.aj L],[.aj M]]),(26,aa (2:Nat)),(27,aa x.1)]) (fun x K=>(x.1=0/\x.2=g/\K=G')\/(x.1=1/\x.2=w/\K=z)\/(x.1=2/\x.2=s/\K=u)) [] (fun x=>2-x.1) _ [6,25,26,27] (fun _=>rfl) ?_ (0,g) _ d (.inl ⟨rfl,rfl,rfl⟩) rfl);rintro⟨j,t⟩ ⟨e,K,D⟩ d p q;simp only at d p q;subst q;simp at d;have⟨N,T,O,P⟩:=d;rcases p with⟨rfl,rfl,rfl⟩|⟨rfl,rfl,rfl⟩|⟨rfl,rfl,rfl⟩
  .simp[-pw,-ac7,N,T,O,P,bm];exact⟨1,by omega,_,⟨rfl,by decide⟩,.inr (.inl ⟨rfl,rfl⟩)⟩
  .simp[-pw,-ac7,N,T,O,P,bj];exact⟨2,by omega,_,⟨rfl,by decide⟩,.inr (.inr ⟨rfl,rfl⟩)⟩
  .simp[-pw,-ac7,N,O,P]
 rintro e G⟨J,_⟩rfl;simp[-dF,-ac7,J,f3]
def TH{m:List Int}(p:l.length<=100000)(hm:m.length<=100000):aS tz ay 0 318 [bh (l.map aC),bh (m.map aC)]=some (cy (gN l m)):=by
 refine be func318 rfl ?_;have c:=abR p hm;have w:(l++m).length<=200000:=by rw[afu];omega
 have a:=Sp (H:=[ah 1 [[.aj (l.map aC)],[.aj (m.map aC)]],ah 1 ((l++m).map aC)]) (h:=1) (v:=0) (n:=(l++m).length) (l:=l++m) rfl rfl (by omega);have d:=bi l;have e:=bi m;have f:=bi (l++m);have g:=bi (gN l m);have r:cD (l++m)=gN l m:=rfl;rw[r]at a;have⟨U,s⟩:=ak (gN l m);rw[s]at a g|-;have⟨L,i⟩:=ak (l.map aC);have⟨M,j⟩:=ak (m.map aC);have⟨K,b⟩:=ak ((l++m).map aC);have⟨k,t⟩:=ak ((l++m).length);rw[i,j,b,t]at c a;rw[i]at d|-;rw[j]at e|-;rw[b]at f;have u:aO tz ay 344 [bd 0 0 0 2] [ah 1 [[.aj L],[.aj M]]]=some (bd 1 0 0 k,[ah 1 [[.aj L],[.aj M]],ah 1 K]):=by simp[d,e,f,c];intro x o;rw[<-b]at o;obtain⟨q,_,rfl⟩:=aiE.1 o;rfl
 simp[-aD,f318,u,a,g]
def aft(e:gS tz){c:List au}(h:ka gN c H=some (r,H')):Call aaD 318 c H r H':=by
 unfold ka at h;split at h
 .rename_i a b;split at h
  .rename_i l m f hm;split at h
   .rename_i hc;simp only[aa2,aky]at hc;injection h with h;have g:(cy (gN l m)).1=r:=by rw[h]
    have i:(cy (gN l m)).2=H':=by rw[h]
    subst g i;refine Ot (args':=[bh (l.map aC),bh (m.map aC)]) (fun Γ n d=>?_) (o9 e ?_)
    .simp only[bU]at d|-;obtain⟨y,t,rfl,j,z,t2,rfl,k,rfl⟩:=d;exact⟨y,_,rfl,QB f j,z,_,rfl,QB hm k,rfl⟩
    .have:=TH hc.1 hc.2;simp[this,cy,bi]
   .cases h
  .cases h
 .cases h
end
instance iW7:W:=W1
def w2:ads.wrap 2=2:=by decide
def w3:ads.wrap 3=3:=by decide
def w5:ads.wrap 5=5:=by decide
def kM(k:Int):Int:=if k=9 then 5 else if 1<=k/\k<=8 then 3 else 0
def IG(k:Int):aS tz ay 0 133 [aa k]=some (aa (kM k),[]):=by
 refine be func133 rfl ?_;unfold kM;by_cases b:k=9
 .simp[f133,w2,w5,b]
 by_cases a:k=1\/k=2\/k=3\/k=4\/k=5\/k=6\/k=7\/k=8
 .rcases a with a|a|a|a|a|a|a|a;all_goals simp[f133,w3,a]
 simp only[not_or]at a;have⟨a,c,d,e,f,g,h,i⟩:=a;have:¬(1<=k/\k<=8):=by omega
 simp[f133,a,c,d,e,f,g,h,i,b,this]
def vK(m:cU):Bool:=!decide (m.aP<0)&&!decide (m.aP>65535)&&!decide (m.num<0)&&!decide (m.num>65535)&&!decide (kM m.kind=0)&&(!decide (kM m.kind=3)||decide (m.num=0))
def Wa(m:cU):aS tz ay 0 132 [.agg (br m)]=some (aR (vK m),[]):=by
 refine be func132 rfl ?_;have a:=IG m.kind;have⟨s,b⟩:=ak (kM m.kind);rw[b]at a;unfold vK;rw[b];by_cases c1:m.aP<0
 .simp[f132,br,c1]
 by_cases c2:m.aP>65535
 .simp[f132,br,c1,c2]
 by_cases c3:m.num<0
 .simp[f132,br,c1,c2,c3]
 by_cases c4:m.num>65535
 .simp[f132,br,c1,c2,c3,c4]
 by_cases c5:s=0
 .simp[f132,br,c1,c2,c3,c4,a,c5]
 by_cases c:s=3
 .simp[f132,br,c1,c2,c3,c4,a,c]
 .simp[f132,br,c1,c2,c3,c4,a,c5,c]
def fj:pI aaD 9=true:=by kernel_rfl
def tu:rQ aaD 135=true:=by kernel_rfl
abbrev U4(x:Int):ab:= .v (.int .u32 x)
def jq(x:Int):UInt8:=alU (aja.wrap x).toNat
def qW(x:Int):List UInt8:=[jq (x.fdiv (2 ^ 24)),jq (x.fdiv (2 ^ 16)),jq (x.fdiv (2 ^ 8)),jq x]
def afY:(4:Nat)<=maxLen:=by decide
def Ud:min 24 ajQ.bits=24:=rfl
def SM:min 16 ajQ.bits=16:=rfl
def SV:min 8 ajQ.bits=8:=rfl
def Po(x:Int):aS tz ay 0 219 [.c (U4 x)]=some (.c (Sg (qW x)),[]):=by refine be func219 rfl ?_;have⟨a,e⟩:=ak (aja.wrap (x.fdiv (2 ^ 24)));have⟨b,f⟩:=ak (aja.wrap (x.fdiv (2 ^ 16)));have⟨c,hc⟩:=ak (aja.wrap (x.fdiv (2 ^ 8)));have⟨d,g⟩:=ak (aja.wrap x);simp only[qW,jq,e,f,hc,g];simp[f219,gT,nF,bytesOf,fj,tu,afY,Ud,SM,SV,e,f,hc,g,-Int.reducePow]
def KF(a b:Int):Int:=jz .xor .u32 a b
def oE(x:Int):Int:=jz .and .u32 x 15
def EU(j:Int):Int:=lE.getD j.toNat 0
def Pm(x:Int):Int:=KF (x.fdiv (2 ^ 4)) (EU (oE x))
def xd(x:Int)(b:UInt8):Int:=Pm (Pm (KF x (ajQ.wrap (b.toNat:Int))))
def xL(x:Int)(s:List UInt8):Int:=rN .u32 (s.foldl xd (rN .u32 x))
def Ja(x:Int):0<=oE x/\oE x<16:=by
 have h:(aje 32 x&&&aje 32 15).toNat<16:=by rw[BitVec.toNat_and];exact Nat.lt_of_le_of_lt Nat.and_le_right (by decide)
 unfold oE jz;show 0<=ajQ.wrap ((aje 32 x&&&aje 32 15).toNat:Int)/\ajQ.wrap ((aje 32 x&&&aje 32 15).toNat:Int)<16;have⟨n,hn⟩:=ak ((aje 32 x&&&aje 32 15).toNat);rw[hn]at h|-
 have:ajQ.wrap (n:Int)=n:=by
  have a:∀m:Fin 16,ajQ.wrap ((m.val:Nat):Int)=(m.val:Nat):=by decide
  exact a ⟨n,h⟩
 rw[this];omega
def Wq:um 2=some (.aK [lE.map fun n=> .v (.int .u32 n)] 0 0):=rfl
def agz{j:Int}(h:0<=j/\j<16):(lE.map fun n=>ab.v (.int .u32 n))[j.toNat]?=some (U4 (EU j)):=by
 have a:∀m:Fin 16,(lE.map fun n=>ab.v (.int .u32 n))[m.val]?=some (U4 (lE.getD m.val 0)):=by
  intro m;match m with
  |⟨0,_⟩=>rfl
  |⟨1,_⟩=>rfl
  |⟨2,_⟩=>rfl
  |⟨3,_⟩=>rfl
  |⟨4,_⟩=>rfl
  |⟨5,_⟩=>rfl
  |⟨6,_⟩=>rfl
  |⟨7,_⟩=>rfl
  |⟨8,_⟩=>rfl
  |⟨9,_⟩=>rfl
  |⟨10,_⟩=>rfl
  |⟨11,_⟩=>rfl
  |⟨12,_⟩=>rfl
  |⟨13,_⟩=>rfl
  |⟨14,_⟩=>rfl
  |⟨15,_⟩=>rfl
  |⟨n+16,h⟩=>exact absurd h (by omega)
 exact a ⟨j.toNat,by omega⟩
def Zw(P:Program)(H:List Ob)(t:TypeId)(y:Operand)(a b:Int):gT P H .xor t y (some (.c (U4 a))) (some (.c (U4 b)))=some (.c (U4 (KF a b))):=rfl
def afU(P:Program)(H:List Ob)(t:TypeId)(y:Operand)(a:Int):gT P H .shr t y (some (.c (U4 a))) (some (.c (.v (.int .u64 4))))=some (.c (U4 (a.fdiv (2 ^ 4)))):=rfl
def TA(rows:List (List ab))(z:Int):sH aaD 435 (some (.c (.aK rows 0 0))) (some (.c (U4 (oE z))))=some (.c (.aK rows 0 (oE z).toNat)):=by have:=Ja z;simp[sH,this]
def WR(z:Int):ajQ.wrap (((z % 2 ^ ajQ.bits).toNat&&&15 % 2 ^ ajQ.bits:Nat):Int)=oE z:=by unfold oE jz;simp[BitVec.toNat_and,alQ]
def TK(x:Int)(s:List UInt8)(w:s.length<=1000000):aS tz ay 0 273 [.c (U4 x),.c (Sg s)]=some (.c (U4 (xL x s)),[]):=by
 refine be func273 rfl ?_;simp[f273,gj,fj];refine ia (fun k:Nat=>[(10,aa s.length),(11,aa k),(1,.c (Sg s)),(5,.c (U4 ((s.take k).foldl xd (rN .u32 x))))]) (fun k H=>k<=s.length/\H=[]) (fun k=>s.length-k) ?_ 0 (by simp) (by simp) fun _=>rfl;rintro k e H ⟨g,h,o,d,_⟩ ⟨A,p⟩;subst p;have⟨y,a⟩:=ak ((s.take k).foldl xd (rN .u32 x));rw[a]at d;have⟨R,f⟩:=ak (lE.map (fun n=>ab.v (.int .u32 n)));have B:R.length=16:=by rw[<-f];rfl
 have q:∀z,R[(oE z).toNat]?=some (U4 (EU (oE z))):=fun z=>by rw[<-f];exact agz (Ja z)
 have C:∀z,((oE z).toNat+1<=16)=True:=fun z=>eq_true (by have:=Ja z;omega);have i:=Wq;rw[f]at i;by_cases j:k<s.length
 .have r:ads.wrap ((k:Int)+1)=((k+1:Nat):Int):=cr (by omega)
  have l:(s.take (k+1)).foldl xd (rN .u32 x)=xd y s[k]:=by
   have t:s.take (k+1)=s.take k++[s[k]]:=by simp
   rw[t,ajc,a];rfl
  have⟨b,m⟩:=ak s[k];rw[m]at l;have u:s[k]?=some b:=by rw[aae j,m]
  simp[g,h,o,d,j,u,r,fj,nz,Zw,WR,afU,TA,q,i,-gT,-sH,-getElem?_pos,-aae,-Int.reducePow];exact⟨k+1,by omega,⟨by simp,by rw[l];rfl⟩,by omega⟩
 .obtain rfl:k=s.length:=by omega
  rw[aiv]at a;have hm:xL x s=rN .u32 y:=by unfold xL;rw[a]
  rw[hm];simp[g,h,d,DG]
def rq(s:List UInt8):Int:=xL 0 s
def KN(s:List UInt8)(b:s.length<=1000000):aS tz ay 0 220 [.c (Sg s)]=some (.c (U4 (rq s)),[]):=by refine be func220 rfl ?_;have h:=TK 0 s b;have⟨y,a⟩:=ak (xL 0 s);rw[a]at h;unfold rq;rw[a];simp[f220,h]
def wQ(s:List UInt8):Option (List UInt8):=if s.length<4 then none else if s.drop (s.length-4)=qW (rq (s.take (s.length-4)))then some (s.take (s.length-4))else none
def aeR(s:List UInt8)(m:s.length<=1000000):aS tz ay 0 159 [.c (Sg s)]=some (match wQ s with|none=> .aM [.c (Sg []),aR false]|some t=> .aM [.c (Sg t),aR true],[]):=by
 refine be func159 rfl ?_;have e:ads.wrap ((s.length:Int)-4)=(s.length:Int)-4:=fC (by omega) (by omega);unfold wQ;by_cases c1:s.length<4
 .have a:(s.length:Int)-4<0:=by omega
  simp[f159,gj,fj,e,c1,a]
 have a:¬(s.length:Int)-4<0:=by omega
 have h:((s.length:Int)-4).toNat=s.length-4:=by omega
 have n:0<=(s.length:Int)-4:=by omega
 have i:(s.length:Int)-4<=s.length:=by omega
 have j:(4:Int)<=s.length:=by omega
 have b:=KN (s.take (s.length-4)) (by simp;omega);have⟨y,k⟩:=ak (rq (s.take (s.length-4)));rw[k]at b|-;have f:=Po y;have⟨z,l⟩:=ak (qW y);rw[l]at f|-;have⟨t,g⟩:=ak (s.take (s.length-4));rw[g]at b|-;have⟨u,d⟩:=ak (s.drop (s.length-4));rw[d];have o:(s.take s.length).drop (s.length-4)=u:=by rw[aiv];exact d
 by_cases c2:u=z
 .subst c2;simp[f159,gj,pG,gT,fj,e,c1,a,h,i,j,b,f,g,d]
 .simp[f159,gj,pG,gT,fj,e,c1,a,h,i,j,b,f,g,d,c2]
def I2(x:Int):UInt8:=jq (x.fdiv (2 ^ 8))
def OD(m:cU):List UInt8:=[jq m.kind,I2 m.aP,jq m.aP,I2 m.num,jq m.num]
def ju(m:cU):List UInt8×Int:=if vK m=false then([],70)else((OD m).take (kM m.kind).toNat,0)
def Af:min 8 ads.bits=8:=rfl
def R5:(5:Nat)<=maxLen:=by decide
def acd{m:cU}(h:vK m=true):kM m.kind=3\/kM m.kind=5:=by
 have a:¬kM m.kind=0:=by intro e;simp[vK,e]at h
 unfold kM at a|-;split
 .exact .inr rfl
 .rename_i b;rw[if_neg b]at a;split
  .exact .inl rfl
  .rename_i c;rw[if_neg c]at a;exact absurd rfl a
def p80(m:cU):aS tz ay 0 80 [.agg (br m)]=some (.aM [.c (Sg (ju m).1),aa (ju m).2],[]):=by
 refine be func80 rfl ?_;have e:=Wa m;have g:=IG m.kind;unfold ju;cases h:vK m with
 |false=>rw[h]at e;simp only[br]at e;simp[f80,br,e]
 |true=>
  rw[h]at e;simp only[br]at e;have⟨a,i⟩:=ak (aja.wrap m.kind);have⟨b,j⟩:=ak (aja.wrap (m.aP.fdiv (2 ^ 8)));have⟨c,hc⟩:=ak (aja.wrap m.aP);have⟨d,k⟩:=ak (aja.wrap (m.num.fdiv (2 ^ 8)));have⟨f,l⟩:=ak (aja.wrap m.num);simp only[OD,I2,jq,i,j,hc,k,l];rcases acd h with n|n
  .rw[n]at g|-;simp[f80,br,e,g,gT,nF,bytesOf,fj,tu,R5,Af,i,j,hc,k,l,-Int.reducePow]
  .rw[n]at g|-;simp[f80,br,e,g,gT,nF,bytesOf,fj,tu,R5,Af,i,j,hc,k,l,-Int.reducePow]
def FM(l:List UInt8):cU:=⟨(l.getD 0 0).toNat,(l.getD 1 0).toNat*256+(l.getD 2 0).toNat,if l.length>3 then(l.getD 3 0).toNat*256+(l.getD 4 0).toNat else 0⟩
def lj(l:List UInt8):cU×Int:=if l=[]\/ ¬(l.length:Int)=kM (l.getD 0 0).toNat then(⟨0,0,0⟩,71)else(FM l,0)
def acF(k:Int):kM k=0\/kM k=3\/kM k=5:=by
 unfold kM;repeat' split
 all_goals simp
def Ph(b c:UInt8):jz .or .i64 ((b.toNat:Int)*256) (c.toNat:Int)=(b.toNat:Int)*256+c.toNat:=by
 have e:=b.toNat_lt;have hc:=c.toNat_lt;unfold jz;show ads.wrap ((aje 64 ((b.toNat:Int)*256)|||aje 64 (c.toNat:Int)).toNat:Int)=_;rw[BitVec.toNat_or,alQ,alQ];have a:((b.toNat:Int)*256 % (2 ^ 64:Nat)).toNat=2 ^ 8*b.toNat:=by rw[alW (by omega) (by omega)];omega
 have d:((c.toNat:Int) % (2 ^ 64:Nat)).toNat=c.toNat:=by rw[alW (by omega) (by omega)];omega
 rw[a,d, <-Nat.two_pow_add_eq_or_of_lt (by omega)];rw[fC (by omega) (by omega)];omega
def wb(a:UInt8):ads.wrap (a.toNat:Int)=(a.toNat:Int):=by have:=a.toNat_lt;exact fC (by omega) (by omega)
def M5(a:UInt8):ads.wrap ((a.toNat:Int)*256)=(a.toNat:Int)*256:=by have:=a.toNat_lt;exact fC (by omega) (by omega)
def XZ(l:List UInt8)(k:l.length<=1000000):aS tz ay 0 141 [.c (Sg l)]=some (.aM [.agg (br (lj l).1),aa (lj l).2],[]):=by
 refine be func141 rfl ?_;unfold lj;by_cases h:l=[]
 .simp[f141,h,gT,br]
 obtain⟨a,r,rfl⟩:∃a r,l=a::r:=by
  cases l with
  |nil=>exact absurd rfl h
  |cons a r=>exact⟨a,r,rfl⟩
 have f:=IG (a.toNat:Int);obtain⟨z,g⟩:=ak (kM (a.toNat:Int));have i:=acF (a.toNat:Int);rw[g]at f i;by_cases hn:(((a::r).length:Nat):Int)=z
 case neg=>
  have j:¬((r.length:Int)+1=z):=by simpa using hn
  simp[f141,gT,gj,nz,fj,br,wb,f,g,j]
 rcases i with rfl|rfl|rfl
 ·(simp at hn<;>omega)
 .obtain ⟨b,c,rfl⟩:∃b c,r=[b,c]:=by
   match r,hn with
   |[b,c],_=>exact⟨b,c,rfl⟩
   |[],hn=>simp at hn
   |[_],hn=>simp at hn
   |_::_::_::_,hn=>(simp at hn<;>omega)
  simp[f141,gT,gj,nz,fj,br,wb,M5,Ph,f,g,FM,Af]
 .obtain ⟨b,c,d,e,rfl⟩:∃b c d e,r=[b,c,d,e]:=by
   match r,hn with
   |[b,c,d,e],_=>exact⟨b,c,d,e,rfl⟩
   |[],hn=>simp at hn
   |[_],hn=>simp at hn
   |[_,_],hn=>simp at hn
   |[_,_,_],hn=>simp at hn
   |_::_::_::_::_::_,hn=>(simp at hn<;>omega)
  simp[f141,gT,gj,nz,fj,br,wb,M5,Ph,f,g,FM,Af]
abbrev U8(x:Int):ab:= .v (.int .u64 x)
def ON(a b:Int):Int:=jz .or .u64 a b
def wD(x:Int)(b:UInt8):Int:=ON (aiS.wrap (x*2 ^ 8)) (aiS.wrap (b.toNat:Int))
def oB(l:List UInt8)(a n:Nat):Int:=((l.take (a+n)).drop a).foldl wD 0
def WN(P:Program)(H:List Ob)(t:TypeId)(y:Operand)(a b:Int):gT P H .or t y (some (.c (U8 a))) (some (.c (U8 b)))=some (.c (U8 (ON a b))):=rfl
def ad5(P:Program)(H:List Ob)(t:TypeId)(y:Operand)(a:Int):gT P H .shl t y (some (.c (U8 a))) (some (.c (.v (.int .u64 8))))=some (.c (U8 (aiS.wrap (a*2 ^ 8)))):=rfl
def yt(l:List UInt8)(a n:Nat)(w:l.length<=1000000)(h:a+n<=l.length):aS tz ay 0 158 [.c (Sg l),aa a,aa n]=some (.c (U8 (oB l a n)),[]):=by
 refine be func158 rfl ?_;have g:ads.wrap ((a:Int)+n)=((a+n:Nat):Int):=by rw[fC (by omega) (by omega)];omega
 have⟨t,d⟩:=ak ((l.take (a+n)).drop a);have x:t.length=n:=by rw[<-d];simp;omega
 have q:t.length<=maxLen:=by unfold maxLen;omega
 have c1:(0:Int)<=a:=by omega
 have c2:(a:Int)<=((a+n:Nat):Int):=by omega
 have c3:((a+n:Nat):Int)<=l.length:=by omega
 have c4:((a+n:Nat):Int).toNat=a+n:=by omega
 have c5:(a:Int).toNat=a:=by omega
 unfold oB;rw[d];simp[f158,pG,nF,fj,tu,g,c1,c2,c3,c4,c5,d,q,-ac7];refine ia (fun k:Nat=>[(16,bd 0 0 0 t.length),(17,aa t.length),(18,aa k),(7,.c (U8 ((t.take k).foldl wD 0)))]) (fun k H=>k<=t.length/\H=[ah 1 (t.map ej)]) (fun k=>t.length-k) ?_ 0 (by simp) (by simp) fun _=>rfl;rintro k e H ⟨r,j,m,i,_⟩ ⟨z,s⟩;subst s;have⟨y,f⟩:=ak ((t.take k).foldl wD 0);rw[f]at i;by_cases o:k<t.length
 .have g:ads.wrap ((k:Int)+1)=((k+1:Nat):Int):=cr (by omega)
  have d:(t.take (k+1)).foldl wD 0=wD y t[k]:=by
   have u:t.take (k+1)=t.take k++[t[k]]:=by simp
   rw[u,ajc,f];rfl
  have⟨b,p⟩:=ak t[k];rw[p]at d;have v:t[k]?=some b:=by rw[aae o,p]
  simp[r,j,m,i,o,v,g,ej,WN,ad5,-gT,-getElem?_pos,-aae,-Int.reducePow];exact⟨k+1,by omega,⟨by simp,by rw[d];rfl⟩,by omega⟩
 .obtain rfl:k=t.length:=by omega
  rw[aiv]at f;rw[f];simp[j,m,i]
structure Fm where
 kind:Int
 link:Int
 seq:Int
 qD:Int
 body:List UInt8
deriving DecidableEq,Inhabited
def cd(f:Fm):List ab:=[I f.kind,I f.link,U8 f.seq,U8 f.qD,Sg f.body]
def mO(f:Fm):Bool:=(decide (f.kind=1)||decide (f.kind=2))&&decide (0<=f.link)&&decide (f.link<=65535)&&decide (f.body.length<=64)&&(decide (f.kind=1)||decide (f.body=[]))
def zN(f:Fm):aS tz ay 0 160 [.agg (cd f)]=some (aR (mO f),[]):=by
 refine be func160 rfl ?_;unfold mO;by_cases b:f.kind=1
 .by_cases c1:0<=f.link
  .by_cases c2:f.link<=65535
   .by_cases c3:f.body.length<=64
    .have a:(f.body.length:Int)<=64:=by omega
     simp[f160,cd,gj,fj,b,c1,c2,c3,a]
    .have a:¬(f.body.length:Int)<=64:=by omega
     simp[f160,cd,gj,fj,b,c1,c2,c3,a]
   .simp[f160,cd,b,c1,c2]
  .simp[f160,cd,b,c1]
 by_cases c:f.kind=2
 .by_cases c1:0<=f.link
  .by_cases c2:f.link<=65535
   .by_cases c3:f.body.length<=64
    .have a:(f.body.length:Int)<=64:=by omega
     simp[f160,cd,gj,gT,fj,c,c1,c2,c3,a]
    .have a:¬(f.body.length:Int)<=64:=by omega
     simp[f160,cd,gj,fj,c,c1,c2,c3,a]
   .simp[f160,cd,c,c1,c2]
  .simp[f160,cd,c,c1]
 simp[f160,cd,b,c]
def pO(a:ByteArray):da (.v (.string a))= .v (.string a):=rfl
def kU:Fm:=⟨0,0,0,0,[]⟩
def uI(l t:List UInt8):Fm:=⟨(l.getD 2 0).toNat,ads.wrap (oB l 3 2),oB l 5 8,oB l 13 8,t.drop 23⟩
inductive B1
 |bad (c o:Int)
 |yL (f:Fm)
 |ok (f:Fm)
def jU(l:List UInt8):B1:=
 if l.length<27 then .bad 61 l.length
 else if ¬l.getD 0 0=78 then .bad 62 0
 else if ¬l.getD 1 0=1 then .bad 63 1
 else if ¬oB l 21 2=aiS.wrap ((l.length:Int)-23-4)then .bad 64 21
 else match wQ l with
  |none=> .bad 65 (ads.wrap (23+((l.length:Int)-23-4)))
  |some t=>if mO (uI l t)=true then .ok (uI l t)else .yL (uI l t)
def mQ(H:List Ob):B1->au×List Ob
 | .bad c o=>(.aM [.agg (cd kU),.c (.iA 288 (.ptr (H.length+1) 0 0 0))],H++[ah 5 [cd kU],ah 2 [[I o,.iA 40 (I c)]]])
 | .yL f=>(.aM [.agg (cd kU),.c (.iA 288 (.ptr (H.length+2) 0 0 0))],H++[ah 5 [cd kU],.live 1 5 [cd f],ah 2 [[I 2,.iA 40 (I 66)]]])
 | .ok f=>(.aM [.agg (cd f),.c (.v .nilIface)],H++[ah 5 [cd f],.live 1 5 [cd f]])
def QU(a:UInt8)(n:Nat)(hn:n<256):((a.toNat:Int)=(n:Int))=(a=alU n):=by
 have:=a.toNat_lt;rw[eq_iff_iff];constructor
 .intro h;have b:a.toNat=n:=by omega
  rw[<-b];simp
 .intro h;rw[h,UInt8.toNat_ofNat'];omega
def Xs(H:List Ob)(l:List UInt8)(k:l.length<=1000000):bB tz (ev tz) 97 [.c (Sg l)] H=some (mQ H (jU l)):=by
 have K:=cG (C:=tz) (f:=97) (args:=[.c (Sg l)]) (H:=H) (fun r G=>(r,G)=mQ H (jU l)) func97 rfl ?_
 .have ⟨r,G,d,o⟩:=K;rw[<-o];exact d
 have w1:ads.wrap ((l.length:Int)-23)=(l.length:Int)-23:=fC (by omega) (by omega);have w2:ads.wrap ((l.length:Int)-23-4)=(l.length:Int)-23-4:=fC (by omega) (by omega);unfold jU;by_cases c1:l.length<27
 .have e:(l.length:Int)-23-4<0:=by omega
  simp[f97,gj,oL,fj,w1,w2,c1,e,mQ,cd,kU,pO]
 have e:¬(l.length:Int)-23-4<0:=by omega
 obtain⟨p,g⟩:∃a,l[0]?=some a:=⟨l[0],aae (by omega)⟩;obtain⟨q,d⟩:∃a,l[1]?=some a:=⟨l[1],aae (by omega)⟩;obtain⟨L,o⟩:∃a,l[2]?=some a:=⟨l[2],aae (by omega)⟩;have d0:l.getD 0 0=p:=by rw[ae9,g];rfl
 have d1:l.getD 1 0=q:=by rw[ae9,d];rfl
 have d2:l.getD 2 0=L:=by rw[ae9,o];rfl
 have M:((p.toNat:Int)=78)=(p=78):=QU p 78 (by decide);have N:((q.toNat:Int)=1)=(q=1):=QU q 1 (by decide);rw[if_neg c1,d0,d1];by_cases c2:p=78
 case neg=>simp[f97,gj,oL,nz,fj,w1,w2,e,mQ,cd,kU,pO,g,M,c2]
 by_cases c3:q=1
 case neg=>simp[f97,gj,oL,nz,fj,w1,w2,e,mQ,cd,kU,pO,g,d,N,c2,c3]
 have j:=yt l 21 2 k (by omega);have⟨n,hn⟩:=ak (oB l 21 2);have⟨m,hm⟩:=ak (aiS.wrap ((l.length:Int)-23-4));rw[hn]at j;rw[hn,hm];have O:((21:Nat):Int)=21:=rfl;have A:((2:Nat):Int)=2:=rfl;rw[O,A]at j;by_cases c4:n=m
 case neg=>simp[f97,gj,oL,nz,fj,w1,w2,e,mQ,cd,kU,pO,g,d,c2,c3,j,hm,c4]
 subst c4;have s:=aeR l k;cases h:wQ l with
 |none=>rw[h]at s;simp[f97,gj,oL,nz,fj,w1,w2,e,mQ,cd,kU,pO,g,d,c2,c3,j,s,hm]
 |some t=>
  rw[h]at s;have v:oB l 3 2=oB l 3 2:=rfl;have w:=yt l 3 2 k (by omega);have x:=yt l 5 8 k (by omega);have y:=yt l 13 8 k (by omega);have P:((3:Nat):Int)=3:=rfl;have Q:((5:Nat):Int)=5:=rfl;have B:((8:Nat):Int)=8:=rfl;have R:((13:Nat):Int)=13:=rfl;rw[P,A]at w;rw[Q,B]at x;rw[R,B]at y
  have T:23<=t.length:=by
   unfold wQ at h;rw[if_neg (by omega)]at h;split at h
   .cases h;simp;omega
   .cases h
  have D:(23:Int)<=t.length:=by omega
  have i:=zN (uI l t);have⟨b,E⟩:=ak (mO (uI l t));rw[E]at i;simp only[E];simp only[cd,uI,d2]at i|-;have⟨S,F⟩:=ak (oB l 3 2);have⟨U,I⟩:=ak (oB l 5 8);have⟨V,J⟩:=ak (oB l 13 8);rw[F,I,J]at i|-;rw[F]at w;rw[I]at x;rw[J]at y;have⟨W,v⟩:=ak (ads.wrap S);rw[v]at i|-;have⟨u,z⟩:=ak (t.drop 23);rw[z]at i|-;have X:(t.take t.length).drop 23=u:=by rw[aiv];exact z
  cases b with
  |true=>simp[f97,gj,nz,pG,fj,w1,w2,e,mQ,cd,pO,g,d,o,c2,c3,j,s,i,hm,w,x,y,v,z,D,wb,sJ,gV,iT]
  |false=>simp[f97,gj,oL,nz,pG,fj,w1,w2,e,mQ,cd,kU,pO,g,d,o,c2,c3,j,s,i,hm,w,x,y,v,z,D,wb,sJ,gV,iT]
def lB:B1->Fm×Int
 | .bad c _=>(kU,c)
 | .yL _=>(kU,66)
 | .ok f=>(f,0)
def Vw(H:List Ob)(l:List UInt8)(a:l.length<=1000000):aO tz ay 97 [.c (Sg l)] H=some (mQ H (jU l)):=by rw[dz (f:=97) rfl];exact Xs H l a
def ND:tz.dH 98=vz:=by kernel_rfl
def agb(H:List Ob)(h v i k:Nat):aO tz ay 98 [.c (.v .nilIface),.c (.iA 214 (.ptr h v i k))] H=some (aR false,H):=by rw[dz (f:=98) rfl,iw EJ,ND];rfl
def R6{H:List Ob}{hf vf he ve z:Nat}{a e:ab}{n:Int}(b:H[hf]?=some (.live vf z [[a,.iA 40 (I n)]]))(d:H[he]?=some (.live ve 1 [[e]])):aO tz ay 98 [.c (.iA 288 (.ptr hf vf 0 0)),.c (.iA 214 (.ptr he ve 0 0))] H=some (aR true,H.set he (.live ve 1 [[I n]])):=by rw[dz (f:=98) rfl,iw EJ,ND];simp only[vz,obj,b,d,if_true]
def V6(l:List UInt8)(e:l.length<=1000000):aS tz ay 0 54 [.c (Sg l)]=some (.aM [.agg (cd (lB (jU l)).1),aa (lB (jU l)).2],[]):=by
 refine be func54 rfl ?_;have a:=fun H=>Vw H l e;cases d:jU l with
 |bad c o=>simp only[d,mQ,cd,kU]at a;have b:=R6 (H:=[ah 5 [[I 0,I 0,U8 0,U8 0,Sg []]],ah 5 [[I 0,I 0,U8 0,U8 0,Sg []]],ah 2 [[I o,.iA 40 (I c)]],ah 5 [[I 0,I 0,U8 0,U8 0,Sg []]],ah 1 [[I 0]]]) (hf:=2) (vf:=0) (he:=4) (ve:=0) rfl rfl;simp only[alO,ajL]at b;simp[-aD,f54,a,b,lB,cd,kU,pO,oL]
 |yL f=>simp only[d,mQ,cd,kU]at a;have b:=R6 (H:=[ah 5 [[I 0,I 0,U8 0,U8 0,Sg []]],ah 5 [[I 0,I 0,U8 0,U8 0,Sg []]],.live 1 5 [[I f.kind,I f.link,U8 f.seq,U8 f.qD,Sg f.body]],ah 2 [[I 2,.iA 40 (I 66)]],ah 5 [[I 0,I 0,U8 0,U8 0,Sg []]],ah 1 [[I 0]]]) (hf:=3) (vf:=0) (he:=5) (ve:=0) rfl rfl;simp only[alO,ajL]at b;simp[-aD,f54,a,b,lB,cd,kU,pO,oL]
 |ok f=>simp only[d,mQ,cd]at a;simp[-aD,f54,a,agb,lB,cd,pO,oL]
section
variable{H:List Ob}{b:Nat}{w:Wk}
def cF.af{H:List Ob}{b:Nat}{w:Wk}{d f g i se:ab}{a u n:Nat}(h:cF H b w (.sl a u 0 n) d f g i se)(x:List Ob)(c:Nat)(L:List aI)(o:List (List ab)):
  cF (((H++x).set a (.live c 8 (L.map ax++o))).set b (ah 13 [bN (w.put (w.n.eK L)) (.sl a c 0 L.length) d f g i se])) b (w.put (w.n.eK L)) (.sl a c 0 L.length) d f g i se/\
  bq b H (((H++x).set a (.live c 8 (L.map ax++o))).set b (ah 13 [bN (w.put (w.n.eK L)) (.sl a c 0 L.length) d f g i se])):=by
 have⟨j,⟨t,A⟩,B,C,D,E,F,d1,d2⟩:=h
 have M:=bf j
 have⟨N,O,y,k⟩:=A
 simp only[ab.sl.injEq]at y
 obtain⟨rfl,rfl,_,rfl⟩:=y
 have p:a≠b:=fun e=>by subst e;rw[j]at k;cases k
 have l:∀(q s:Ob) (m v z:Nat) (r:List (List ab)),z≠13->z≠8\/m≠a->H[m]?=some (.live v z r)->(((H++x).set a q).set b s)[m]?=some (.live v z r):=fun q s m v z r G I J=>AC j k G I q s J
 have K:((H++x).set a (.live c 8 (L.map ax++o)))[b]?=some (ah 13 [bN w (.sl a u 0 (w.n.dr.ai.af.map ax).length) d f g i se]):=by rw[aay p];exact aV j
 refine⟨⟨ba K,⟨o,a,c,by simp[Wk.put,Nd.eK],?_⟩,B.aJ fun _ _ _ _ h=>l _ _ _ _ _ _ (by decide) (.inl (by decide)) h,C.aJ fun _ _ _ _ h=>l _ _ _ _ _ _ (by decide) (.inl (by decide)) h,D.aJ fun _ _ _ _ h=>l _ _ _ _ _ _ (by decide) (.inl (by decide)) h,E.aJ fun _ _ _ _ h=>l _ _ _ _ _ _ (by decide) (.inl (by decide)) h,F.aJ fun _ _ _ _ h=>l _ _ _ _ _ _ (by decide) (.inl (by decide)) h,d1,d2⟩,?_⟩
 .rw[aay (ain p),ba (aV k)]
  simp[Wk.put,Nd.eK]
 .refine AP j k p (by simp[eu,bN,rf]) (fun m hm=>?_) _
  simp[eu,bN,rf,aG]at hm|-
  grind
structure pf(l:List aI):Prop where
 s:l.Pairwise fun x y=>x.peer<y.peer
 b:∀x∈l,-1000000<=x.peer/\x.peer<=1000000
 m:l.length<=100000
def Qu{sl y J z A se:ab}(h:cF H b w sl y J z A se)(f:pf w.n.dr.ai.af)(K:wG w.n.known)(x:aI)(B: -1000000<=x.peer)(C:x.peer<=1000000):
  ∃j,bB tz (ev tz) 73 [aw b,.agg (ax x)] H=some (.aM [],j)/\(∃L E,cF j b (w.nW x) L y E z A se)/\bq b H j:=by
 refine gv func73 rfl ?_
 have a:=h.hb
 have Y:=bf a
 obtain⟨t,c,M,rfl,d⟩:=h.hs
 have Z:=bf d
 have N:c≠b:=fun e=>by subst e;rw[a]at d;cases d
 simp only[bN]at a
 have⟨l,o⟩:=ak w.n.dr.ai.af
 have O:(w.n.dr.ai.af.map ax).length=l.length:=by rw[<-o];simp
 rw[O]at a h
 have P:((l.map ax)++t).take l.length=l.map ax:=ai2 (by simp)
 rw[o]at d f
 have p:=WS l x.peer (by have:=f.m;omega) f.s f.b B C
 have F:=Az aI.peer x.peer l
 have aa:=f.m
 have q:=SE x l
 have⟨r,Q⟩:=ak (fL aI.peer x.peer l)
 rw[Q]at p F q
 have⟨fd,R⟩:=ak (decide (r<l.length)&&decide ((l[r]?.map (·.peer))=some x.peer))
 rw[R]at p
 have⟨v,g,D,i⟩:=Uz (x:=x) (h:=c) (ver:=M) (h2:=H.length) (ver2:=0) (k:=r) (l:=l) (t:=t) (H:=H++[ah 8 [ax x]]) (aV d) (by rw[pq];rfl) (by omega) F (by omega)
 rw[<-q]at i
 have S:(H++[Ob.live 0 8 [ax x]]).set c (.live v 8 ((fR x l).map ax++g))++D=(H++(Ob.live 0 8 [ax x]::D)).set c (.live v 8 ((fR x l).map ax++g)):=by
  rw[<-ajT _ _ (by simp;omega),aio];rfl
 rw[S]at i
 have G:((H++(Ob.live 0 8 [ax x]::D)).set c (.live v 8 ((fR x l).map ax++g)))[b]?=_:=(aay N).trans (aV a)
 have u:=h.af (Ob.live 0 8 [ax x]::D) v (fR x l) g
 have T:(fR x l).length=l.length+1:=by rw[q];simp;omega
 rw[T]at u
 have⟨ad,U⟩:=ak ((H++(Ob.live 0 8 [ax x]::D)).set c (.live v 8 ((fR x l).map ax++g)))
 rw[U]at i G u
 have⟨w1,V⟩:=u
 have⟨j,I,⟨E,w2⟩,W⟩:=aap w1 K x.peer x.aP B C
 have X:(w.put (w.n.eK (fR x l))).uC x.peer x.aP=w.nW x:=by rw[<-o];rfl
 rw[X]at w2
 simp only[ax]at i
 simp only[bN,Wk.put,Nd.eK,aG]at I
 simp[f73,ax,a,d,P,bL,p,i,G,I]
 exact⟨⟨_,_,w2⟩,V.trans W⟩
def aeV(h:bZ H b w)(c:pf w.n.dr.ai.af)(d:wG w.n.known)(x:aI)(f: -1000000<=x.peer)(i:x.peer<=1000000):
  ∃a,bB tz (ev tz) 73 [aw b,.agg (ax x)] H=some (.aM [],a)/\bZ a b (w.nW x)/\bq b H a:=by
 have⟨sl,k,l,m,o,se,h⟩:=h
 have⟨a,e,⟨p,q,g⟩,j⟩:=Qu h c d x f i
 exact⟨a,e,g.at,j⟩
end
structure OK(w:Wk)(k:Nat):Prop where
 s:pf ((w.n.asked.take k).foldl Wk.iz w).n.dr.ai.af
 n:wG ((w.n.asked.take k).foldl Wk.iz w).n.known
 o:((w.n.asked.take k).foldl Wk.iz w).out.length<=90000
 e:((w.n.asked.take k).foldl Wk.iz w).seen.length<=90000
def OW:∀(l:List cu) (w:Wk),(l.foldl Wk.iz w).n.asked=w.n.asked
 |[],_=>rfl
 |k::r,w=>by rw[aiW,OW r];rfl
structure Cell(b:Nat)(G:List Ob)(m:Nat)(o:Ob):Prop where
 at':G[m]?=some o
 ne:m≠b
 rf:m∉oH G[b]?
def Cell.step{b m:Nat}{G a:List Ob}{o:Ob}(h:Cell b G m o)(f:bq b G a):Cell b a m o:=by have⟨c,d⟩:=f.2 m o h.at' h.ne h.rf;exact⟨c,h.ne,d⟩
def cF.lt{H:List Ob}{b:Nat}{w:Wk}{sl a k l n se:ab}(h:cF H b w sl a k l n se):∀m∈oH H[b]?,m<H.length:=by
 have⟨c,⟨t,d⟩,e,f,g,i,j,d1,d2⟩:=h;rw[c];intro m hm;have o:=d.lt m
 have p:m∈rf a->m<H.length:=by
  rcases e with rfl|h
  .intro h;simp[Go.Nx.rf]at h
  .exact h.lt m
 have q:=f.lt m;have r:=g.lt m;have s:=i.lt m;have u:=j.lt m;simp only[oH,eu,bN,ait,ajk,ahl,qi,rm,aG]at hm;clear d e f g i j d1 d2 c;simp at hm;grind
def cF.cell{H x:List Ob}{b:Nat}{w:Wk}{sl a c d e se:ab}(h:cF H b w sl a c d e se){i:Nat}{o:Ob}(f:x[i]?=some o):Cell b (H++x) (H.length+i) o:=by have g:=bf h.hb;refine⟨by rw[jd];exact f,by omega,?_⟩;rw[aaK g];intro hm;have:=h.lt _ hm;omega
def cF.snoc{H x:List Ob}{b:Nat}{w:Wk}{sl a c d e se:ab}(h:cF H b w sl a c d e se):cF (H++x) b w sl a c d e se:=by have⟨f,⟨t,g⟩,i,j,k,l,m,d1,d2⟩:=h;exact⟨aV f,⟨t,g.aJ fun _ _ _ _ h=>aV h⟩,i.aJ fun _ _ _ _ h=>aV h,j.aJ fun _ _ _ _ h=>aV h,k.aJ fun _ _ _ _ h=>aV h,l.aJ fun _ _ _ _ h=>aV h,m.aJ fun _ _ _ _ h=>aV h,d1,d2⟩
def RZ(H:List Ob)(b:Nat)(a c:ab)(G:List Ob)(v:Wk):Prop:= ∃sl d e se,cF G b v sl a d c e se/\bq b H G
def adY{H:List Ob}{b:Nat}{w:Wk}(h:bZ H b w)(hA:∀k,k<w.n.asked.length->OK w k)(hp:∀k∈w.n.asked,-1000000<=k.peer/\k.peer<=1000000)(hm:w.n.asked.length<=100000):
  ∃y,bB tz (ev tz) 205 [aw b] H=some (.aM [],y)/\bZ y b w.answer/\bq b H y:=by
 refine gv func205 rfl ?_
 have⟨sl,o,a,N,d,se,h⟩:=h
 have s:=h.hb
 have⟨l,j⟩:=ak w.n.asked
 have fin:∀(G:List Ob) (v:Wk) (sl a d se:ab),cF G b v sl o a N d se->bq b H G->v.put {v.n with asked:=[]}=w.answer->bZ (G.set b (ah 13 [bN (v.put {v.n with asked:=[]}) sl o a ap d se])) b w.answer/\bq b H (G.set b (ah 13 [bN (v.put {v.n with asked:=[]}) sl o a ap d se])):=by
  intro G v sl a d se g f e
  have:=g.vO f [] (v.put {v.n with asked:=[]}) sl o ap (.inl ⟨rfl,rfl⟩) (.inl ⟨rfl,rfl⟩) rfl (.inr ⟨rfl,rfl⟩) rfl rfl
  rw[aeo,e]at this
  rw[e]
  exact this
 simp only[f205,bX]
 refine ef (fun S=>S.env.get 0=some (aw b)/\S.bH=[]/\RZ H b o N S.heap (l.foldl Wk.iz w)) ?_ ?_
 .simp only[bN]at s
  rcases h.ha with⟨p,rfl⟩|⟨p,z,rfl,aj⟩
  .simp[j]at p
   subst p
   simp[underlying68,s]
   refine im (fun k:Unit=>[(10,aa 0),(11,aa 0),(0,aw b)]) (fun k G=>G=H) (fun k=>0) ?_ () (by simp) (by simp) fun _=>rfl
   rintro _ e G⟨t,u,m,_⟩O
   subst O
   simp[t,u,m]
   exact⟨sl,a,d,se,h,bq.refl _ _⟩
  .have X:(w.n.asked.map aW).length=l.length:=by rw[<-j];simp
   rw[X]at h s
   simp[underlying68,s]
   refine im (fun k:Nat=>[(10,aa l.length),(11,aa k),(9,bd p z 0 l.length),(0,aw b)]) (fun k G=>k<=l.length/\RZ H b o (.sl p z 0 l.length) G ((l.take k).foldl Wk.iz w)) (fun k=>l.length-k) ?_ 0 (by simp) ⟨by simp,sl,a,d,se,h,bq.refl _ _⟩ fun _=>rfl
   rintro k e G⟨t,u,Y,m,_⟩⟨O,sl,a,d,se,g,f⟩
   by_cases r:k<l.length
   .have Z:ads.wrap ((k:Int)+1)=((k+1:Nat):Int):=cr (by rw[j]at hm;omega)
    have ad:=hA k (by rw[j];exact r)
    have A:=hp l[k] (by rw[j];exact air r)
    have⟨B,C,P,Q⟩:=ad
    rw[j]at B C P Q
    have D:(l.take (k+1)).foldl Wk.iz w=((l.take k).foldl Wk.iz w).iz l[k]:=by rw[jK r,ajc];rfl
    have R:((l.take k).foldl Wk.iz w).n.asked=l:=by rw[OW,j]
    have⟨v,E⟩:=ak ((l.take k).foldl Wk.iz w)
    rw[E]at g B C P Q D R
    have T:=g.ha
    rw[R]at T
    have ae:G[p]?=some (.live z 2 (l.map aW)):=by
     rcases T with⟨_,c⟩|⟨c1,c2,c3,c4⟩
     .cases c
     .simp only[ab.sl.injEq]at c3
      obtain⟨rfl,rfl,_,_⟩:=c3
      rw[aeo]at c4
      exact c4
    have⟨q,U⟩:=ak l[k]
    rw[U]at A D
    have af:(l.map aW)[k]?=some [I q.peer,I q.aP]:=by rw[adn,aae r,U];rfl
    obtain⟨x,F⟩:∃x:aI,x=⟨q.peer,q.aP,0,false,false,true,false,true⟩:=⟨_,rfl⟩
    have c3:=g.cell (x:=[ah 2 [[I q.peer,I q.aP]],ah 8 [ax x]]) (i:=0) rfl
    have c4:=g.cell (x:=[ah 2 [[I q.peer,I q.aP]],ah 8 [ax x]]) (i:=1) rfl
    have V:x.peer=q.peer:=by rw[F]
    have⟨G3,J,⟨al,am,g3⟩,f3⟩:=Qu (g.snoc (x:=[ah 2 [[I q.peer,I q.aP]],ah 8 [ax x]])) B C x (by rw[V];exact A.1) (by rw[V];exact A.2)
    have⟨G4,K,⟨an,ao,g4⟩,f4⟩:=zD g3 x 6 (by show v.out.length<=_;omega)
    have⟨G5,e5,⟨aq,ar,g5⟩,f5⟩:=IS g4 6 q.peer (.inr ⟨rfl,rfl⟩) (by decide) (by show v.seen.length<=_;omega)
    have ag:=c4.step f3
    have nZ:=(c3.step f3).step f4
    have L:=ag.at'
    have W:=nZ.at'
    rw[aiw]at W
    rw[F]at J K L
    simp only[ax]at J K L
    have ai:v.iz q=((v.nW x).send x 6).ek 6 q.peer:=by rw[F];rfl
    simp[-getElem?_pos,-aae,t,u,Y,m,r,ae,af,Z,J,K,e5,L,W]
    refine⟨k+1,by omega,by simp,by omega,?_⟩
    rw[D,ai]
    exact⟨_,_,_,_,g5,((f.trans (bq.snoc (bf g.hb))).trans f3).trans (f4.trans f5)⟩
   .obtain rfl:k=l.length:=by omega
    simp[t,u,m]
    rw[aiv]at g
    rw[j]
    exact⟨sl,a,d,se,g,f⟩
 .rintro⟨e,G,ds⟩⟨m,rfl,sl,a,d,se,g,f⟩
  simp only at m g f
  have M:=g.hb
  have:=fin G _ sl a d se g f (by rw[<-j];rfl)
  have⟨v,E⟩:=ak (l.foldl Wk.iz w)
  rw[E]at M this
  simp only[bN,Wk.put,aG]at M this
  simp[m,M]
  exact this
def Wk.eZ(w:Wk)(x:aI):Wk:=if gM x=true/\x.peer∉w.n.told then(w.send x 5).put {w.n with told:=gN w.n.told [x.peer]}else w
def IL:∀(l:List aI) (w:Wk),l.foldl Wk.eZ w=⟨{w.n with told:=(jo w.n.id l w.n.told w.out).1},(jo w.n.id l w.n.told w.out).2,w.seen,w.e⟩
 |[],w=>rfl
 |x::r,w=>by
  rw[aiW,IL r]
  by_cases h:gM x=true/\x.peer∉w.n.told
  .have a:w.eZ x=(w.send x 5).put {w.n with told:=gN w.n.told [x.peer]}:=if_pos h
   have b:jo w.n.id (x::r) w.n.told w.out=jo w.n.id r (gN w.n.told [x.peer]) (w.out++[fu w.n.id x 5]):=if_pos h
   rw[a,b]
   rfl
  .have a:w.eZ x=w:=if_neg h
   have b:jo w.n.id (x::r) w.n.told w.out=jo w.n.id r w.n.told w.out:=if_neg h
   rw[a,b]
def U5(w:Wk):w.n.af.foldl Wk.eZ w=w.tell:=IL _ _
def YW(w:Wk)(x:aI):(w.eZ x).n.dr=w.n.dr:=by unfold Wk.eZ;split<;>rfl
def MT:∀(l:List aI) (w:Wk),(l.foldl Wk.eZ w).n.dr=w.n.dr
 |[],_=>rfl
 |x::r,w=>by rw[aiW,MT r,YW]
def Uv(H:List Ob)(b:Nat)(sl a c d:ab)(G:List Ob)(v:Wk):Prop:= ∃e se,cF G b v sl a c d e se/\bq b H G
def acm{H:List Ob}{b:Nat}{w:Wk}(h:bZ H b w)(hm:w.n.dr.ai.af.length<=1000)(hA:∀k,k<w.n.dr.ai.af.length->((w.n.dr.ai.af.take k).foldl Wk.eZ w).out.length<=90000/\((w.n.dr.ai.af.take k).foldl Wk.eZ w).n.told.length<=90000):
  ∃B,bB tz (ev tz) 210 [aw b] H=some (.aM [],B)/\bZ B b w.tell/\bq b H B:=by
 refine gv func210 rfl ?_
 have⟨sl,p,C,q,N,se,h⟩:=h
 have D:=h.hb
 have⟨l,r⟩:=ak w.n.dr.ai.af
 have W:l.foldl Wk.eZ w=w.tell:=by rw[<-r];exact U5 w
 obtain⟨t,e,j,rfl,ae⟩:=h.hs
 simp only[bN]at D
 have X:(w.n.dr.ai.af.map ax).length=l.length:=by rw[<-r];simp
 rw[X]at h D
 rw[r]at hm hA
 simp[f210,underlying59,D]
 refine im (fun k:Nat=>[(11,aa l.length),(12,aa k),(10,bd e j 0 l.length),(0,aw b)]) (fun k G=>k<=l.length/\Uv H b (.sl e j 0 l.length) p C q G ((l.take k).foldl Wk.eZ w)) (fun k=>l.length-k) ?_ 0 (by simp) ⟨by simp,N,se,h,bq.refl _ _⟩ fun _=>rfl
 rintro k ag G⟨s,u,E,F,_⟩⟨h2,N,se,g,f⟩
 by_cases c:k<l.length
 .have J:ads.wrap ((k:Int)+1)=((k+1:Nat):Int):=cr (by omega)
  have⟨Y,Z⟩:=hA k c
  have m:(l.take (k+1)).foldl Wk.eZ w=((l.take k).foldl Wk.eZ w).eZ l[k]:=by rw[jK c,ajc];rfl
  have O:=MT (l.take k) w
  have⟨v,hv⟩:=ak ((l.take k).foldl Wk.eZ w)
  rw[hv]at g Y Z m O
  have⟨x,P⟩:=ak l[k]
  rw[P]at m
  have⟨t,aj,al,Q,y⟩:=g.hs
  simp only[ab.sl.injEq]at Q
  obtain⟨rfl,rfl,_,_⟩:=Q
  rw[O,r]at y
  have z:(l.map ax++t)[k]?=some (ax x):=by rw[aaK (by simpa using c),adn,aae c,P];rfl
  have A:=g.hb
  have c3:=g.cell (x:=[ah 8 [ax x]]) (i:=0) rfl
  have d:=E7 x
  have o:=qv v.n.told x.peer (by unfold maxLen;omega)
  simp only[ax,aG]at d o z
  simp only[bN]at A
  have ad:=c3.at'
  rw[aiw]at ad
  have K:=bf A
  have L:k<l.length+t.length:=by omega
  cases c1:gM x with
  |false=>
   have a:v.eZ x=v:=by simp[Wk.eZ,c1]
   rw[c1]at d
   simp[-getElem?_pos,-aae,s,u,E,F,c,L,y,z,J,d]
   refine⟨k+1,by omega,by simp,by omega,?_⟩
   rw[m,a]
   exact⟨_,_,g.snoc,f.trans (bq.snoc K)⟩
  |true=>
   rw[c1]at d
   by_cases c2:x.peer∈v.n.told
   .have a:v.eZ x=v:=by simp[Wk.eZ,c2]
    simp[c2]at o
    simp[-getElem?_pos,-aae,s,u,E,F,c,L,y,z,J,d,o,aV A,bi]
    refine⟨k+1,by omega,by simp,by omega,?_⟩
    rw[m,a]
    exact⟨_,_,g.snoc,f.trans (bq.snoc K)⟩
   .have a:v.eZ x=(v.send x 5).put {v.n with told:=gN v.n.told [x.peer]}:=by simp[Wk.eZ,c1,c2]
    simp[c2]at o
    have⟨G4,R,⟨S,T,U⟩,f4⟩:=zD (g.snoc (x:=[ah 8 [ax x]])) x 5 (by omega)
    have V:=SL v.n.told x.peer (by omega)
    have c4:=(c3.step f4).at'
    rw[aiw]at c4
    have fin:=U.Je ((f.trans (bq.snoc K)).trans f4) [] (v.eZ x) (.sl e j 0 l.length) p q (.inl ⟨rfl,by rw[a];rfl⟩) (.inl ⟨rfl,by rw[a];rfl⟩) (by rw[a];rfl) (.inl ⟨rfl,by rw[a];rfl⟩) (by rw[a];rfl) (by rw[a];rfl)
    have M:=U.hb
    rw[aeo]at fin
    have er:bN (v.eZ x) (.sl e j 0 l.length) p C q S T=[I v.n.dr.ai.id,I v.n.dr.ai.phase,.sl e j 0 l.length,I v.n.dr.aQ,aG v.n.dr.need,I v.n.book.last,p,C,aG (gN v.n.told [x.peer]),q,S,T,I v.e]:=by rw[a];rfl
    rw[er]at fin
    simp only[bN,Wk.send]at M
    simp only[ax,aG]at R V c4 fin M
    simp[-getElem?_pos,-aae,s,u,E,F,c,L,y,z,J,d,o,aV A,bi,R,c4,M,V]
    refine⟨k+1,by omega,by simp,by omega,?_⟩
    rw[m]
    exact⟨_,_,fin.1,fin.2⟩
 .obtain rfl:k=l.length:=by omega
  simp[s,u]
  rw[aiv,W]at g
  exact⟨g.at,f⟩
def VG{C:bu}{f:FuncId}{l:Nat}{r:Code}{m:Type}(d:m->Env)(i:m->List Ob->Prop)(j:List (FuncId×List au))(k:m->Nat)(Q:Exit->St->Prop)(K:List Nat)(q:∀b,(d b).map (·.1)=K)
  (step:∀b S,Has S.env (d b)->i b S.heap->S.bH=j->Ends (ev C f (bX (.seq (.label l) r)) S) fun ex e=>match ex with| .goto s=>s=l/\∃a,k a<k b/\Has e.env (d a)/\i a e.heap/\e.bH=j|ex=>Q ex e):
  ∀b S,Has S.env (d b)->i b S.heap->S.bH=j->Ends (ev C f (.scope (.seq (.label l) r)) S) Q:=by
 have t:∀n b S,k b<n->Has S.env (d b)->i b S.heap->S.bH=j->Ends (ev C f (.scope (.seq (.label l) r)) S) Q:=by
  intro n
  induction n with
  |zero=>intro b S h;omega
  |succ n u=>
   intro b S hn g o p
   rw[T4]
   have c:=step b ⟨eL (iI S.env) S.env,S.heap,S.bH⟩ (g.pick g rfl) o p
   rw[tU]at c
   have v:findLabel (.seq (.label l) r) l=some (.seq .skip r):=by simp[findLabel]
   unfold Ends at c
   split at c
   .rename_i ex e w
    unfold v8
    rw[w]
    cases ex with
    |goto s=>
     obtain⟨rfl,a,A,x,y,z⟩:=c
     simp only[v,if_true]
     exact u a _ (by omega) (g.pick x ((q a).trans (q b).symm)) y z
    |_=>exact c
   .exact c.elim
 exact fun b S g o p=>t (k b+1) b S (by omega) g o p
def keeps(w:Wk)(x:aI):Prop:=dC w.n.id w.n.dr.aQ w.n.dr.need x=([x],[])
def Vq{w:Wk}(h:∀x∈w.n.af,keeps w x):w.kR=w:=by
 have a:∀l:List aI,(∀x∈l,keeps w x)->(l.flatMap fun x=>(dC w.n.id w.n.dr.aQ w.n.dr.need x).1)=l/\(l.flatMap fun x=>(dC w.n.id w.n.dr.aQ w.n.dr.need x).2)=[]:=by
  intro l;induction l with
  |nil=>intro _;exact⟨rfl,rfl⟩
  |cons x r b=>intro h;have c:dC w.n.id w.n.dr.aQ w.n.dr.need x=([x],[]):=h x (by simp);have⟨d,e⟩:=b fun y f=>h y (by simp[f]);simp only[ait,c,d,e];exact⟨rfl,rfl⟩
 have⟨g,i⟩:=a _ h;unfold Wk.kR;rw[g,i,aeo];rfl
def P9{w:Wk}{a r:List aI}{x:aI}{L:List aI}{M:List cB}(h:w.n.af=a++x::r)(d:∀y∈a,keeps w y)(b:dC w.n.id w.n.dr.aQ w.n.dr.need x=(L,M))(f:∀y∈L,keeps w y):
  (⟨w.n.eK (a++L++r),w.out++M,w.seen,w.e⟩:Wk).kR=w.kR:=by
 have c:∀l:List aI,(∀x∈l,keeps w x)->(l.flatMap fun x=>(dC w.n.id w.n.dr.aQ w.n.dr.need x).1)=l/\(l.flatMap fun x=>(dC w.n.id w.n.dr.aQ w.n.dr.need x).2)=[]:=by
  intro l
  induction l with
  |nil=>intro _;exact⟨rfl,rfl⟩
  |cons x r g=>
   intro h
   have b:dC w.n.id w.n.dr.aQ w.n.dr.need x=([x],[]):=h x (by simp)
   have⟨i,j⟩:=g fun y k=>h y (by simp[k])
   simp only[ait,b,i,j]
   exact⟨rfl,rfl⟩
 have⟨m,o⟩:=c a d
 have⟨p,q⟩:=c L f
 have s:((a++L++r).flatMap fun x=>(dC w.n.id w.n.dr.aQ w.n.dr.need x).1)=(a++x::r).flatMap fun x=>(dC w.n.id w.n.dr.aQ w.n.dr.need x).1:=by
  simp only[ako,ait,b,m,p,aio]
 have t:(M++(a++L++r).flatMap fun x=>(dC w.n.id w.n.dr.aQ w.n.dr.need x).2)=(a++x::r).flatMap fun x=>(dC w.n.id w.n.dr.aQ w.n.dr.need x).2:=by
  simp only[ako,ait,b,o,q,aiy]
 show(⟨w.n.eK ((a++L++r).flatMap fun x=>(dC w.n.id w.n.dr.aQ w.n.dr.need x).1),(w.out++M)++((a++L++r).flatMap fun x=>(dC w.n.id w.n.dr.aQ w.n.dr.need x).2),w.seen,w.e⟩:Wk)=⟨w.n.eK (w.n.af.flatMap fun x=>(dC w.n.id w.n.dr.aQ w.n.dr.need x).1),w.out++(w.n.af.flatMap fun x=>(dC w.n.id w.n.dr.aQ w.n.dr.need x).2),w.seen,w.e⟩
 rw[aio w.out M,t,s, <-h]
def zQ{w:Wk}{x:aI}:keeps w x↔ (x.state≠2\/(w.n.dr.aQ=2/\x.peer∈w.n.dr.need)):=by
 unfold keeps dC;split
 .rename_i h;simp[h]
 .rename_i h;constructor
  .intro a;split at a
   .simp at a
   .simp at a
  .intro a;exact absurd a h
structure Hf(w v:Wk):Prop where
 l:v.kR=w.kR
 s:pf v.n.dr.ai.af
def Hf.out{w v:Wk}(h:Hf w v):v.out.length<=w.kR.out.length:=by rw[<-h.l];simp[Wk.kR]
def Ym{l:List aI}{k:Nat}(g:k<l.length)(h:l.Pairwise fun x y=>x.peer<y.peer):l.filter (fun x=>!decide (x.peer=l[k].peer))=l.take k++l.drop (k+1):=by
 have c:l=l.take k++l[k]::l.drop (k+1):=by rw[<-afv g,ajE]
 have⟨a,d⟩:=ak (l.take k);have⟨r,e⟩:=ak (l.drop (k+1));have⟨x,f⟩:=ak l[k];rw[d,e,f]at c;rw[d,e,f];rw[c]at h|-;have hp:=List.pairwise_append.1 h;have i:=af7.1 hp.2.1
 have j:a.filter (fun y=>!decide (y.peer=x.peer))=a:=ajn.2 fun y b=>by
  have:=hp.2.2 y b x (by simp);have:¬y.peer=x.peer:=by omega
  simp[this]
 have m:r.filter (fun y=>!decide (y.peer=x.peer))=r:=ajn.2 fun y b=>by
  have:=i.1 y b;have:¬y.peer=x.peer:=by omega
  simp[this]
 rw[ajh,j,akJ];simp[m]
end Go.Nx
