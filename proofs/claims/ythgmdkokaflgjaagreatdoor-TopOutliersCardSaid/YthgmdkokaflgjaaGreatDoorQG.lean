/- A part of the proof; no condition. -/
import Derived.Test.YthgmdkokaflgjaaGreatDoorQE
import Derived.Test.YthgmdkokaflgjaaGreatDoorQF
import Derived.RangeFuncGives
import Derived.RangeFuncLeaves
import Derived.Maps.AppendAt
import Derived.RangeFuncBound
import Derived.Shelf.Abstract
import Derived.OwnWalkIn
import Derived.TacticsInMore
import Derived.LoopNIn
import Derived.LoopIn
import Derived.Test.YthgmdkokaflgjaaGreatDoorChecked
set_option linter.unusedSimpArgs false
set_option linter.unusedVariables false
set_option linter.unusedSectionVars false
namespace Go.Proofs.YthgmdkokaflgjaaGreatDoor
open Go Go.RowKit Go.Ev
set_option maxRecDepth 20000
set_option maxHeartbeats 4000000
variable {Phi:Nat→Option Ctr}
def NL (p:AV):Prop:=p= .nil∨∃ z es,p= .lst z es
theorem NL.nil:NL .nil:= .inl rfl
theorem NL.lst (z:List AV)(es:List (List AV)):NL (.lst z es):= .inr ⟨z,es,rfl⟩
section
variable {p:AV}(h:NL p)
include h
theorem NL.k0 (r:Nat):kill0 r p=p:=by rcases h with rfl | ⟨z,es,rfl⟩<;>rfl
theorem NL.k1 (r:Nat):kill1 r p=p:=by rcases h with rfl | ⟨z,es,rfl⟩<;>rfl
theorem NL.k3 (r:Nat):kill3 r p=p:=by rcases h with rfl | ⟨z,es,rfl⟩<;>rfl
theorem NL.f0 (r:Nat)(z:List AV)(es:List (List AV)):frz0 r z es p=p:=by rcases h with rfl | ⟨z,es,rfl⟩<;>rfl
theorem NL.f1 (r:Nat)(z:List AV)(es:List (List AV)):frz1 r z es p=p:=by rcases h with rfl | ⟨z,es,rfl⟩<;>rfl
theorem NL.f3 (r:Nat)(z:List AV)(es:List (List AV)):frz3 r z es p=p:=by rcases h with rfl | ⟨z,es,rfl⟩<;>rfl
theorem NL.r0 (k R:Nat):ren0 k R p=p:=by rcases h with rfl | ⟨z,es,rfl⟩<;>rfl
theorem NL.r1 (k R:Nat):ren1 k R p=p:=by rcases h with rfl | ⟨z,es,rfl⟩<;>rfl
theorem NL.r3 (k R:Nat):ren3 k R p=p:=by rcases h with rfl | ⟨z,es,rfl⟩<;>rfl
theorem NL.gv (q:List (Nat×Bool)):Ev.gv q p=some p:=by rcases h with rfl | ⟨z,es,rfl⟩<;>rfl
theorem NL.ce:cellsOfAV 1 p=some [p]:=by rcases h with rfl | ⟨z,es,rfl⟩<;>rfl
theorem NL.c0:p.clean0=true:=by rcases h with rfl | ⟨z,es,rfl⟩<;>rfl
theorem NL.c1:p.clean1=true:=by rcases h with rfl | ⟨z,es,rfl⟩<;>rfl
theorem NL.c2:p.clean2=true:=by rcases h with rfl | ⟨z,es,rfl⟩<;>rfl
theorem NL.la (m:Nat→Option Blk):lendA m p=some (p,[]):=by rcases h with rfl | ⟨z,es,rfl⟩<;>rfl
theorem NL.l1 (m:Nat→Option Blk):lend1 m p=some (p,[]):=by rcases h with rfl | ⟨z,es,rfl⟩<;>rfl
theorem NL.lx (m:Nat→Option Blk):lendX m p=some (p,[]):=by rcases h with rfl | ⟨z,es,rfl⟩<;>rfl
theorem NL.lo (m:Nat→Option Blk):lendO0 m p=some (p,[]):=by rcases h with rfl | ⟨z,es,rfl⟩<;>rfl
theorem NL.m0 (L:List (Nat×Nat)):mapA0 L p=p:=by rcases h with rfl | ⟨z,es,rfl⟩<;>rfl
theorem NL.m1 (L:List (Nat×Nat)):mapA1 L p=p:=by rcases h with rfl | ⟨z,es,rfl⟩<;>rfl
theorem NL.p0:ptr0 p= []:=by rcases h with rfl | ⟨z,es,rfl⟩<;>rfl
theorem NL.w0:row0 p= []:=by rcases h with rfl | ⟨z,es,rfl⟩<;>rfl
theorem NL.v0:vws0 p= []:=by rcases h with rfl | ⟨z,es,rfl⟩<;>rfl
theorem NL.v1:vws1 p= []:=by rcases h with rfl | ⟨z,es,rfl⟩<;>rfl
theorem NL.le:leA p p=True:=by rcases h with rfl | ⟨z,es,rfl⟩<;>exact eq_true rfl
theorem NL.lv:leV1 p p=True:=by rcases h with rfl | ⟨z,es,rfl⟩<;>exact eq_true rfl
theorem NL.q0:lk0 p p= []:=by rcases h with rfl | ⟨z,es,rfl⟩<;>rfl
theorem NL.qc (B:Nat→Option Blk)(r i:Nat):lkC0 B r i p p= []:=by rcases h with rfl | ⟨z,es,rfl⟩<;>rfl
theorem NL.ps:pslots p= []:=by rcases h with rfl | ⟨z,es,rfl⟩<;>rfl
end
structure Dv where
 sz:Int
 by':List Int
 wr:List Int
 st:Int
 lf:Int
 to:Int
 dn:Bool
def Dv.cs (d:Dv)(i j:Nat):List AV:=[.int .i64 d.sz,.vw i 0 0 0,.vw j 0 0 0,.int .i64 d.st,.int .i64 d.lf,.int .u8 d.to,.bool d.dn]
def Dv.gr (d:Dv):List (Nat×Blk):=[(0,.cells (d.cs 32 33)),(32,.buf 5 [.int .u8 0] (u8s d.by')),(33,.buf 3 [.int .i64 0] (i64s d.wr))]
def d0:Dv:=⟨0,[],[],0,0,0,false⟩
def Dv.de (bs:List (Nat×Blk)):Dv:=match bs with
 | [(_,.cells [.int _ sz,_,_,.int _ st,.int _ lf,.int _ to,.bool dn]),(_,.buf _ _ es),(_,.buf _ _ ws)]=>⟨sz,decU es,decU ws,st,lf,to,dn⟩
 | _=>d0
theorem Dv.de_gr (a b c:Nat)(k1 k2 k3 k4:IntKind)(x y:AV)(sz st lf to:Int)(dn:Bool)(T T2:Nat)(z z2:List AV)(es ws:List (List AV)):
 Dv.de [(a,.cells [.int k1 sz,x,y,.int k2 st,.int k3 lf,.int k4 to,.bool dn]),(b,.buf T z es),(c,.buf T2 z2 ws)] = ⟨sz,decU es,decU ws,st,lf,to,dn⟩:=by rfl
theorem Dv.eta (d:Dv):Dv.mk d.sz d.by' d.wr d.st d.lf d.to d.dn=d:=rfl
def Dv.step (d:Dv):Dv:=if 0 < d.lf then ⟨d.sz,d.by',d.wr,W (d.st+1),W (d.lf - 1),d.to,decide (W (d.lf - 1) =0)⟩ else ⟨d.sz,d.by',d.wr,W (d.st+1),d.lf,d.to,d.dn⟩
def CStep:Ctr:= .gr Unit [] true λbs xs=>match xs with
 | [.ptr 0 0]=>some (bs=(Dv.de bs).gr,λ_=>(True,.bool (Dv.de bs).step.dn,(Dv.de bs).step.gr))
 | _=>none
def CWth:Ctr:= .mk false λ_ xs=>match xs with
 | [.ep zz [[.int .i64 c0,.lst z es,c2,c3,c4,c5,c6]] 0 0,.int .i64 a,.int .i64 n]=>some (zz= [.int .i64 c0,.lst z es,c2,c3,c4,c5,c6]∧(z= [.int .u8 0]∧es=u8s (decU es))∧es.length≤1000000,.bool (decide (0≤a) && (decide (a≤es.length) && (decide (0≤n) && decide (n≤W (es.length - a))))),[])
 | _=>none
def Dv.pw (d:Dv)(k:Nat)(v:Int):Dv:=⟨d.sz,d.by'.set k v,d.wr,d.st,d.lf,d.to,d.dn⟩
def Dv.prL:Dv→Nat→List Int→Int×Dv
 | d,_,[]=>(0,d)
 | d,k,x::l=>if d.step.dn then (10,d.step.pw k (bitsI .and .u8 (d.by'.getD k 0) (bitsI .or .u8 x d.to))) else (d.step.pw k (bitsI .and .u8 (d.by'.getD k 0) x)).prL (k+1) l
def Dv.wth (d:Dv)(a n:Int):Bool:=decide (0≤a) && (decide (a≤d.by'.length) && (decide (0≤n) && decide (n≤W (d.by'.length - a))))
def Dv.prog (d:Dv)(a:Int)(l:List Int):Int×Dv:=if d.dn then (10,d) else if d.wth a l.length then d.prL a.toNat l else (2,d)
def CProg:Ctr:= .gr Unit [] true λbs xs=>match xs with
 | [.ptr 0 0,.int .i64 a,.lst z es]=>some (bs=(Dv.de bs).gr∧(z= [.int .u8 0]∧es=u8s (decU es))∧es.length≤1000000∧(Dv.de bs).by'.length≤1000000,λ_=>(True,.int .i64 ((Dv.de bs).prog a (decU es)).1,((Dv.de bs).prog a (decU es)).2.gr))
 | _=>none
def Dv.res (d:Dv):Dv:=⟨d.sz,d.by',d.wr,d.st,0,d.to,false⟩
def DCb:Ctr:= .ext false Unit λ_ xs=>match xs with
 | [.lst zz es]=>some ((zz= [.int .u8 0]∧es=u8s (decU es))∧es.length≤1000000,λ_=>(True,.fr 0 5 [.int .u8 0] (u8s (decU es)),[]))
 | _=>none
theorem flatU (l:List Int):FlatE (u8s l):=by
 intro e he
 obtain ⟨k,_,rfl⟩:=List.mem_map.1 he
 rfl
def Dv.rdE (d:Dv)(a n:Int):Int:=if d.dn then 10 else if d.wth a n then 0 else 2
def Dv.rdB (d:Dv)(a n:Int):List Int:=if d.dn then [] else if d.wth a n then (d.by'.drop a.toNat).take n.toNat else []
def CRead:Ctr:= .gr Unit [] true λbs xs=>match xs with
 | [.ptr 0 0,.int .i64 a,.int .i64 n]=>some (bs=(Dv.de bs).gr∧(Dv.de bs).by'.length≤1000000∧(Dv.de bs).rdE a n=0,λ_=>(True,.tup [.vw 64 0 0 0,.int .i64 0],(64,.buf 5 [.int .u8 0] (u8s ((Dv.de bs).rdB a n)))::(Dv.de bs).gr))
 | _=>none
def CSec:Ctr:= .mk false λ_ xs=>match xs with
 | [.ep zz [[.int .i64 c0,c1,.lst z ws,c3,c4,c5,c6]] 0 0]=>some (zz= [.int .i64 c0,c1,.lst z ws,c3,c4,c5,c6],.int .i64 ws.length,[])
 | _=>none
def CSiz:Ctr:= .mk false λ_ xs=>match xs with
 | [.ep zz [[.int .i64 sz,c1,c2,c3,c4,c5,c6]] 0 0]=>some (zz= [.int .i64 sz,c1,c2,c3,c4,c5,c6],.int .i64 sz,[])
 | _=>none
def CDn:Ctr:= .mk false λ_ xs=>match xs with
 | [.ep zz [[c0,c1,c2,c3,c4,c5,.bool dn]] 0 0]=>some (zz= [c0,c1,c2,c3,c4,c5,.bool dn],.bool dn,[])
 | _=>none
theorem Dv.step_by (d:Dv):d.step.by'=d.by':=by unfold Dv.step; split<;>rfl
theorem Dv.step_to (d:Dv):d.step.to=d.to:=by unfold Dv.step; split<;>rfl
theorem Dv.prL_t {d:Dv} {k:Nat} {x:Int} {l:List Int}(h:d.step.dn=true):d.prL k (x::l) =(10,d.step.pw k (bitsI .and .u8 (d.by'.getD k 0) (bitsI .or .u8 x d.to))):=by rw [Dv.prL,if_pos h]
theorem Dv.prL_f {d:Dv} {k:Nat} {x:Int} {l:List Int}(h:d.step.dn=false):d.prL k (x::l) =(d.step.pw k (bitsI .and .u8 (d.by'.getD k 0) x)).prL (k+1) l:=by rw [Dv.prL,if_neg (by rw [h]; decide)]
theorem u8s_set' (l:List Int)(i:Nat)(k:Int):(u8s l).set i [.int .u8 k] =u8s (l.set i k):=by simp [u8s,List.map_set]
theorem i64s_set' (l:List Int)(i:Nat)(k:Int):(i64s l).set i [.int .i64 k] =i64s (l.set i k):=by simp [i64s,List.map_set]
theorem Dv.wth_le {d:Dv} {a n:Int}(hd:d.by'.length≤1000000)(h:d.wth a n=true):0≤a∧0≤n∧a+n≤d.by'.length:=by
 simp only [Dv.wth,Bool.and_eq_true,decide_eq_true_eq] at h
 have h4:n≤IntKind.i64.wrap (d.by'.length - a):=h.2.2.2
 rw [wr_in _ (by omega) (by omega)] at h4
 omega
theorem Dv.step_sz (d:Dv):d.step.sz=d.sz:=by unfold Dv.step; split<;>rfl
theorem Dv.step_wr (d:Dv):d.step.wr=d.wr:=by unfold Dv.step; split<;>rfl
theorem goOp_none (Φ:Nat→Option Ctr)(rest:List RO)(K:St→Prop)(σ:St)(dst:Option Nat):goOp Φ rest K σ dst none=False:=by rfl
theorem pv_bad (vs:List AV):pvR .bad vs=none:=by rfl
theorem walk94 (d:Dv):evC Phi (noI) rc94 ⟨initS [.ptr 0 0],lookM d.gr⟩ (kRetG rv94 (λ(_ :Unit)=>(True,.bool d.step.dn,d.step.gr))):=by
 simp (maxSteps:=2000000) only [rc94,Dv.gr,Dv.cs,rv94,Dv.step_sz,Dv.step_to,Dv.step_by,Dv.step_wr,pk,un,Nat.reduceEqDiff,↓reduceIte,Nat.reduceAdd,Nat.reduceLeDiff,exists_const]
 refine ⟨λh=>?_,λh=>?_⟩
 · simp only [Dv.step,of_decide_eq_true h,if_true]; trivial
 · simp only [Dv.step,of_decide_eq_false h,if_false]; trivial
theorem walk86 (sz st lf to:AV)(w:AV)(dn:AV)(es:List Int)(a n:Int)(hl:es.length≤1000000):evC Phi (noI) rc86 ⟨initS [.ep [sz,.lst [U 0] (u8s es),w,st,lf,to,dn] [[sz,.lst [U 0] (u8s es),w,st,lf,to,dn]] 0 0,Ii a,Ii n],initM false []⟩ (kRet rv86 (.bool (decide (0≤a) && (decide (a≤es.length) && (decide (0≤n) && decide (n≤W (es.length - a)))))) false []):=by
 simp (maxSteps:=2000000) only [rc86,pk,un,rv86,W,Nat.reduceEqDiff,↓reduceIte,Qf0]
 simp only [Bool.and_assoc]
theorem walk45 (c0 c1 c3 c4 c5 c6:AV)(z:List AV)(ws:List (List AV)):evC Phi (noI) rc45 ⟨initS [.ep [c0,c1,.lst z ws,c3,c4,c5,c6] [[c0,c1,.lst z ws,c3,c4,c5,c6]] 0 0],initM false []⟩ (kRet rv45 (Ii ws.length) false []):=by
 simp (maxSteps:=2000000) only [rc45,pk,un,rv45,Nat.reduceEqDiff,↓reduceIte,Qf0]
theorem walk47 (sz:Int)(c1 c2 c3 c4 c5 c6:AV):evC Phi (noI) rc47 ⟨initS [.ep [Ii sz,c1,c2,c3,c4,c5,c6] [[Ii sz,c1,c2,c3,c4,c5,c6]] 0 0],initM false []⟩ (kRet rv47 (Ii sz) false []):=by
 simp (maxSteps:=2000000) only [rc47,pk,un,rv47,Nat.reduceEqDiff,↓reduceIte,Qf0]
theorem walk92 (dn:Bool)(c0 c1 c2 c3 c4 c5:AV):evC Phi (noI) rc92 ⟨initS [.ep [c0,c1,c2,c3,c4,c5,.bool dn] [[c0,c1,c2,c3,c4,c5,.bool dn]] 0 0],initM false []⟩ (kRet rv92 (.bool dn) false []):=by
 simp (maxSteps:=2000000) only [rc92,pk,un,rv92,Nat.reduceEqDiff,↓reduceIte,Qf0]
theorem walk87 (L:List Int)(hl:L.length≤1000000):evC Phi (noI) rc87 ⟨initS [.lst [.int .u8 0] (u8s L)],initM false []⟩ (kRetX rv87 false (λ(_ :Unit)=>(True,.fr 0 5 [.int .u8 0] (u8s L),[]))):=by
 simp (maxSteps:=2000000) only [rc87,pk,un,rv87,Nat.reduceEqDiff,↓reduceIte,Nat.reduceLT,exists_const,Nat.reduceMul,Nat.reduceAdd,Nat.reduceLeDiff]
 refine ⟨λh=>?_,by omega,by omega⟩
 cases L with
 | nil=>rfl
 | cons x l=>simp [u8s] at h
theorem walk46 (P86:Phi 86=some CWth)(P87:Phi 87=some DCb)(d:Dv)(a n:Int)(hl:d.by'.length≤1000000)(he:d.rdE a n=0):evC Phi (noI) rc46 ⟨initS [.ptr 0 0,.int .i64 a,.int .i64 n],lookM d.gr⟩ (kRetG rv46 (λ(_ :Unit)=>(True,.tup [.vw 64 0 0 0,.int .i64 0],(64,.buf 5 [.int .u8 0] (u8s (d.rdB a n)))::d.gr))):=by
 simp (maxSteps:=2000000) only [rc46,Dv.gr,Dv.cs,rv46,pk,un,Nat.reduceEqDiff,↓reduceIte,Nat.reduceAdd,exists_const,P86,CWth,W,Qh0,P87,DCb,u8s_drop,Zx0,Nat.reduceLT,flatU,Nat.reduceMul,Nat.reduceBEq,Nat.reduceLeDiff]
 refine ⟨λh=>?_,λh=>⟨hl,λhw=>?_,λhw=>?_⟩⟩
 · rw [Dv.rdE,if_pos h] at he; cases he
 · rw [Dv.rdE,if_neg (by rw [h]; decide),if_neg (by have hw':(!d.wth a n) =true:=hw; simpa using hw')] at he; cases he
 · have hw:d.wth a n=true:=by have hw':(!d.wth a n) =false:=hw; simpa using hw'
   obtain ⟨h1,h2,h3⟩:=Dv.wth_le hl hw
   rw [wr_in _ (by omega) (by omega)]
   refine ⟨⟨h1,by omega,h3⟩,by simp only [List.length_take,List.length_drop]; omega,?_⟩
   intro _
   rw [Dv.rdB,if_neg (by rw [h]; decide),if_pos hw]
   congr 2
   omega
structure K58a (d:Dv)(a:Int)(l:List Int) where
 i:Nat
 e:Dv
 hi:i≤l.length
 hp:d.prL a.toNat l=e.prL (a.toNat+i) (l.drop i)
 hl:e.by'.length=d.by'.length
def S58a (d:Dv)(a:Int)(l:List Int)(p:K58a d a l):SL:=⟨[(0,.ptr 0 0),(1,Ii a),(21,.lst [U 0] (u8s l)),(22,Ii l.length),(23,Ii p.i)],[(0,.cells (p.e.cs 32 33)),(32,.buf 5 [U 0] (u8s p.e.by')),(33,.buf 3 [Ii 0] (i64s p.e.wr))]⟩
abbrev L58a (d:Dv)(a:Int)(l:List Int):LI:=⟨K58a d a l,S58a d a l,λp=>l.length - p.i,λp q=>True⟩
theorem L58aS (d:Dv)(a:Int)(l:List Int):(L58a d a l).S=S58a d a l:=rfl
theorem L58aR (d:Dv)(a:Int)(l:List Int)(p q:K58a d a l):(L58a d a l).R p q=(True):=rfl
def I58 (d:Dv)(a:Int)(l:List Int):Nat→LI:=λn=>L58a d a l
theorem I58_0 (d:Dv)(a:Int)(l:List Int):I58 d a l 0=L58a d a l:=rfl
theorem walk58 (P86:Phi 86=some CWth)(P94:Phi 94=some CStep)(d:Dv)(a:Int)(l:List Int)(hl:l.length≤1000000)(hd:d.by'.length≤1000000):evC Phi (I58 d a l) rc58 ⟨initS [.ptr 0 0,.int .i64 a,.lst [.int .u8 0] (u8s l)],lookM d.gr⟩ (kRetG rv58 (λ(_ :Unit)=>(True,.int .i64 (d.prog a l).1,(d.prog a l).2.gr))):=by
 simp (maxSteps:=2000000) only [rc58,Dv.gr,Dv.cs,rv58,pk,un,Nat.reduceEqDiff,↓reduceIte,Nat.reduceAdd,exists_const,P86,CWth,W,Qh0,I58_0,L58aS,S58a,L58aR,P94,CStep,Dv.step_sz,Dv.step_to,Dv.step_by,Dv.step_wr,Nat.reduceLT,Nat.reduceLeDiff,Nat.reduceBEq,Dv.de_gr,Qg0,Dv.eta,Option.isSome_some,u8s_set']
 refine ⟨λh=>?_,λh _=>⟨hd,λhw=>?_,λhw _=>⟨⟨0,d,Nat.zero_le _,rfl,rfl⟩,⟨rfl,⟨rfl,rfl,rfl,rfl,rfl⟩,rfl,rfl⟩,?_⟩⟩⟩
 · rw [Dv.prog,if_pos h]; exact ⟨rfl,⟨rfl,rfl,rfl,rfl,rfl⟩,rfl,rfl⟩
 · rw [Dv.prog,if_neg (by rw [h]; decide),if_neg (by have hw':(!d.wth a l.length) =true:=hw; simpa using hw')]; exact ⟨rfl,⟨rfl,rfl,rfl,rfl,rfl⟩,rfl,rfl⟩
 · have hw:d.wth a l.length=true:=by have hw':(!d.wth a l.length) =false:=hw; simpa using hw'
   obtain ⟨h1,h2,h3⟩:=Dv.wth_le hd hw
   have hpr:d.prog a l=d.prL a.toNat l:=by rw [Dv.prog,if_neg (by rw [h]; decide),if_pos hw]
   rw [hpr]
   rintro ⟨i,e,hi,hp,hl'⟩
   dsimp only
   rw [hp]
   refine ⟨λhc=>?_,λhc=>?_⟩
   · have hc:=of_decide_eq_true hc
     have hwr:IntKind.i64.wrap (a+i) =a+i:=wr_in _ (by omega) (by omega)
     have hk:(a+(i:Int)).toNat=a.toNat+i:=by omega
     rw [hwr,hk,drop_cons l 0 i (by omega)]
     refine ⟨⟨by omega,hc⟩,λ_ _=>⟨λhs=>?_,λhs=>?_⟩⟩
     · refine ⟨⟨by omega,by omega⟩,by omega,⟨by omega,by omega⟩,by omega,λ_ _=>?_⟩
       rw [Dv.prL_t hs]
       simp [Dv.pw,Dv.step_by,Dv.step_to,Dv.step_sz,Dv.step_wr]
     · refine ⟨⟨by omega,by omega⟩,λ_=>⟨by omega,⟨by omega,by omega⟩,λ_=>⟨by omega,?_⟩⟩⟩
       rw [drop_cons l 0 i (by omega),Dv.prL_f hs] at hp
       refine ⟨⟨i+1,e.step.pw (a.toNat+i) (bitsI .and .u8 (e.by'.getD (a.toNat+i) 0) (l.getD i 0)),by omega,by rw [hp,Nat.add_assoc],by simp only [Dv.pw,Dv.step_by,List.length_set]; exact hl'⟩,⟨congrArg _ (wr_succ i (by omega)),?_⟩,by dsimp only; omega⟩
       simp [Dv.pw,Dv.step_by,Dv.step_to,Dv.step_sz,Dv.step_wr]
   · have hc:=of_decide_eq_false hc
     have:i=l.length:=by omega
     subst this
     rw [List.drop_length,Dv.prL]
     exact ⟨rfl,⟨rfl,rfl,rfl,rfl,rfl⟩,rfl,rfl⟩
def ixF {α:Type}(p:α→Bool)(l:List α):Int:=if l.any p then (l.findIdx p:Int) else -1
theorem ixF_not {α:Type}(p:α→Bool)(l:List α)(d:α)(h:∀ j,j < l.length→p (l.getD j d) =false):ixF p l= -1:=by
 unfold ixF
 rw [if_neg]
 intro he
 obtain ⟨x,hx,hp⟩:=List.any_eq_true.1 he
 obtain ⟨j,hj,rfl⟩:=List.getElem_of_mem hx
 have:=h j hj
 rw [List.getD_eq_getElem?_getD,List.getElem?_eq_getElem hj,Option.getD_some,hp] at this
 cases this
theorem ixF_hit {α:Type}(p:α→Bool)(l:List α)(d:α)(i:Nat)(h:∀ j,j < i→p (l.getD j d) =false)(hi:i < l.length)(hp:p (l.getD i d) =true):ixF p l=i:=by
 have hp':p l[i] =true:=by rwa [List.getD_eq_getElem?_getD,List.getElem?_eq_getElem hi,Option.getD_some] at hp
 unfold ixF
 rw [if_pos (List.any_eq_true.2 ⟨l[i],List.getElem_mem hi,hp'⟩)]
 congr 1
 refine (List.findIdx_eq hi).2 ⟨hp',λj hj=>?_⟩
 have:=h j hj
 rwa [List.getD_eq_getElem?_getD,List.getElem?_eq_getElem (by omega),Option.getD_some] at this
theorem ixF_ge {α:Type}(p:α→Bool)(l:List α):decide (0≤ixF p l) =l.any p:=by
 unfold ixF
 cases l.any p<;>simp<;>omega
def orR (l:List Int)(lo hi:Nat)(v:Int):List Int:=l.mapIdx λk x=>if lo≤k∧k < hi then bitsI .or .u8 x v else x
theorem orR_len (l:List Int)(lo hi:Nat)(v:Int):(orR l lo hi v).length=l.length:=by simp [orR]
theorem orR_nil (l:List Int)(lo:Nat)(v:Int):orR l lo lo v=l:=by
 apply List.ext_getElem?
 intro i
 simp only [orR,List.getElem?_mapIdx]
 cases l[i]? with
 | none=>rfl
 | some x=>simp only [Option.map_some]; rw [if_neg (by omega)]
theorem orR_get (l:List Int)(lo k:Nat)(v:Int)(h:lo≤k):(orR l lo k v).getD k 0=l.getD k 0:=by
 simp only [orR,List.getD_eq_getElem?_getD,List.getElem?_mapIdx]
 cases l[k]? with
 | none=>rfl
 | some x=>simp only [Option.map_some]; rw [if_neg (by omega)]
theorem orR_set (l:List Int)(lo k:Nat)(v:Int)(h:lo≤k):(orR l lo k v).set k (bitsI .or .u8 (l.getD k 0) v) =orR l lo (k+1) v:=by
 apply List.ext_getElem?
 intro i
 rw [List.getElem?_set,orR_len]
 simp only [orR,List.getElem?_mapIdx,List.getD_eq_getElem?_getD]
 by_cases e:k=i
 · subst e
   rw [if_pos rfl]
   by_cases hk:k < l.length
   · rw [if_pos hk,List.getElem?_eq_getElem hk]
     simp only [Option.map_some,Option.getD_some]
     rw [if_pos ⟨h,by omega⟩]
   · rw [if_neg hk,List.getElem?_eq_none (by omega)]; rfl
 · rw [if_neg e]
   cases l[i]? with
   | none=>rfl
   | some x=>
     simp only [Option.map_some]
     congr 1
     have:(lo≤i∧i < k)↔(lo≤i∧i < k+1):=by omega
     simp only [this]
def Dv.er1 (d:Dv)(s:Int):Dv:=(⟨d.sz,d.by',d.wr.set s.toNat (W (d.wr.getD s.toNat 0+1)),d.st,d.lf,d.to,d.dn⟩:Dv).step
theorem Dv.er1_eq (d:Dv)(s:Int):Dv.step ⟨d.sz,d.by',d.wr.set s.toNat (W (d.wr.getD s.toNat 0+1)),d.st,d.lf,d.to,d.dn⟩ =d.er1 s:=rfl
theorem Dv.er1_wr (d:Dv)(s:Int):(d.er1 s).wr=d.wr.set s.toNat (W (d.wr.getD s.toNat 0+1)):=by unfold Dv.er1; rw [Dv.step_wr]
def Dv.erase (d:Dv)(s:Int):Int×Dv:=if d.dn then (10,d) else if s < 0∨(d.wr.length:Int)≤s then (2,d) else
 (if (d.er1 s).dn then 10 else 0,⟨d.sz,orR d.by' (s * d.sz).toNat ((s+1) * d.sz).toNat (if (d.er1 s).dn then d.to else 255),(d.er1 s).wr,(d.er1 s).st,(d.er1 s).lf,d.to,(d.er1 s).dn⟩)
def CEr:Ctr:= .gr Unit [] true λbs xs=>match xs with
 | [.ptr 0 0,.int .i64 s]=>some (bs=(Dv.de bs).gr∧(Dv.de bs).by'.length≤1000000∧(Dv.de bs).wr.length≤16∧0≤(Dv.de bs).sz∧(Dv.de bs).sz≤1024∧((Dv.de bs).by'.length:Int) =(Dv.de bs).wr.length * (Dv.de bs).sz,λ_=>(True,.int .i64 ((Dv.de bs).erase s).1,((Dv.de bs).erase s).2.gr))
 | _=>none
def CMl:Ctr:= .mk false λ_ xs=>match xs with
 | [.int .u64 a,.int .u64 b]=>some (a=1∧(b=128∨b=4096),.tup [.int .u64 0,.int .u64 b],[])
 | _=>none
def DRp:Ctr:= .ext false Unit λ_ xs=>match xs with
 | [.lst zz es,.int .i64 n]=>some ((zz= [.int .u8 0]∧es=u8s [255])∧(n=128∨n=4096),λ_=>(True,.fr 0 5 [.int .u8 0] (u8s (List.replicate n.toNat 255)),[]))
 | _=>none
def CRp:Ctr:= .own 5 [.int .u8 0] λxs=>match xs with
 | [.lst zz es,.int .i64 n]=>some ((zz= [.int .u8 0]∧es=u8s [255])∧(n=128∨n=4096),u8s (List.replicate n.toNat 255))
 | _=>none
def newD (n sz:Int):Dv:=⟨sz,List.replicate (n * sz).toNat 255,List.replicate n.toNat 0,0,0,0,false⟩
def CNewD:Ctr:= .gr Unit [] true λbs xs=>match xs with
 | [.int .i64 n,.int .i64 sz]=>some (bs= []∧((n=2∧sz=64)∨(n=4∧sz=1024)),λ_=>(True,.tup [.ptr 1920 0,.int .i64 0],[(1920,.cells ((newD n sz).cs 1664 1792)),(1664,.buf 5 [.int .u8 0] (u8s (newD n sz).by')),(1792,.buf 3 [.int .i64 0] (i64s (newD n sz).wr))]))
 | _=>none
structure Ev where
 id:Int
 t:Int
 g:Int
 st:Int
 sn:Int
 ty:Int
 de:Bool
 a:Int
 b:Int
 c:Int
 deriving DecidableEq
def Ev.cs (e:Ev):List AV:=[.int .u16 e.id,.int .u32 e.t,.int .u16 e.g,.int .u8 e.st,.int .u8 e.sn,.int .u8 e.ty,.bool e.de,.int .u8 e.a,.int .u8 e.b,.int .u8 e.c]
theorem Ev.eta (e:Ev):Ev.mk e.id e.t e.g e.st e.sn e.ty e.de e.a e.b e.c=e:=rfl
def ev0:Ev:=⟨0,0,0,0,0,0,false,0,0,0⟩
def vE (e:Ev):Bool:=decide (e.id≤65534) && (decide (e.t≤4294967294) && decide (e.ty≤127))
def CVE:Ctr:= .mk false λ_ xs=>match xs with
 | [.agg [.int .u16 id,.int .u32 t,.int .u16 g,.int .u8 st,.int .u8 sn,.int .u8 ty,.bool de,.int .u8 a,.int .u8 b,.int .u8 c]]=>some (True,.bool (vE ⟨id,t,g,st,sn,ty,de,a,b,c⟩),[])
 | _=>none
def kO (e:Ev):Int:=if e.de then bitsI .or .u8 e.ty 128 else e.ty
def encE (e:Ev):List Int:=[IntKind.u8.wrap e.id,IntKind.u8.wrap (e.id.fdiv (2 ^ 8)),2,IntKind.u8.wrap e.t,IntKind.u8.wrap (e.t.fdiv (2 ^ 8)),IntKind.u8.wrap (e.t.fdiv (2 ^ 16)),IntKind.u8.wrap (e.t.fdiv (2 ^ 24)),IntKind.u8.wrap e.g,IntKind.u8.wrap (e.g.fdiv (2 ^ 8)),4,e.st,e.sn,kO e,e.a,e.b,e.c]
def DEn:Ctr:= .ext false Unit λ_ xs=>match xs with
 | [.agg [.int .u16 id,.int .u32 t,.int .u16 g,.int .u8 st,.int .u8 sn,.int .u8 ty,.bool de,.int .u8 a,.int .u8 b,.int .u8 c]]=>some (vE ⟨id,t,g,st,sn,ty,de,a,b,c⟩ =true,λ_=>(True,.tup [.fr 0 5 [.int .u8 0] (u8s (encE ⟨id,t,g,st,sn,ty,de,a,b,c⟩)),.int .i64 0],[]))
 | _=>none
def w4 (n:Int):List Int:=[IntKind.u8.wrap n,IntKind.u8.wrap (n.fdiv (2 ^ 8)),IntKind.u8.wrap (n.fdiv (2 ^ 16)),IntKind.u8.wrap (n.fdiv (2 ^ 24))]
def DW4:Ctr:= .ext false Unit λ_ xs=>match xs with
 | [.int .i64 n]=>some (True,λ_=>(True,.fr 0 5 [.int .u8 0] (u8s (w4 n)),[]))
 | _=>none
def CW4:Ctr:= .own 5 [.int .u8 0] λxs=>match xs with
 | [.int .i64 n]=>some (True,u8s (w4 n))
 | _=>none
def slD (x:Int):Int:=W ((W (x - 11)).tdiv 17)
def CSl:Ctr:= .mk false λ_ xs=>match xs with
 | [.int .i64 x]=>some (True,.int .i64 (slD x),[])
 | _=>none
def beh (i:Int):Int:=if i=65534 then 1 else IntKind.u16.wrap (i+1)
def CBe:Ctr:= .mk false λ_ xs=>match xs with
 | [.int .u16 x]=>some (True,.int .u16 (beh x),[])
 | _=>none
def sh (n:Nat)(x:Int):Int:=W (x * 2 ^ n)
def rd4 (l:List Int):Int:=bitsI .or .i64 (bitsI .or .i64 (bitsI .or .i64 (W (l.getD 0 0)) (sh 8 (W (l.getD 1 0)))) (sh 16 (W (l.getD 2 0)))) (sh 24 (W (l.getD 3 0)))
def CR4:Ctr:= .mk false λ_ xs=>match xs with
 | [.lst zz es]=>some ((zz= [.int .u8 0]∧es=u8s (decU es))∧4≤es.length,.int .i64 (rd4 (decU es)),[])
 | _=>none
def slot (l:List Int)(i:Int):List Int:=(l.drop (11+i * 17).toNat).take 17
def CSlot:Ctr:= .mk false λ_ xs=>match xs with
 | [.lst zz es,.int .i64 i]=>some ((zz= [.int .u8 0]∧es=u8s (decU es))∧es.length≤1024∧0≤i∧11+i * 17+17≤es.length,.lst [.int .u8 0] (u8s (slot (decU es) i)),[])
 | _=>none
def nFF (x:Int):Bool:=!decide (x=255)
def CNf:Ctr:= .mk false λ_ xs=>match xs with
 | [.int .u8 x]=>some (True,.bool (nFF x),[])
 | _=>none
def CIx:Ctr:= .mk false λ_ xs=>match xs with
 | [.lst zz es,.fn 113]=>some ((zz= [.int .u8 0]∧es=u8s (decU es))∧es.length≤1000000,.int .i64 (ixF nFF (decU es)),[])
 | _=>none
def CCo:Ctr:= .mk false λ_ xs=>match xs with
 | [.lst zz es,.fn 113]=>some ((zz= [.int .u8 0]∧es=u8s (decU es))∧es.length≤1000000,.bool ((decU es).any nFF),[])
 | _=>none
def CBl:Ctr:= .mk false λ_ xs=>match xs with
 | [.lst zz es]=>some ((zz= [.int .u8 0]∧es=u8s (decU es))∧es.length≤1000000,.bool (!(decU es).any nFF),[])
 | _=>none
structure K114a (d:Dv)(s:Int) where
 i:Nat
 hi:((s * d.sz).toNat+i:Nat)≤((s+1) * d.sz).toNat
def S114a (d:Dv)(s:Int)(p:K114a d s):SL:=⟨[(0,.ptr 0 0),(1,Ii s),(5,.bool (d.er1 s).dn),(6,U (if (d.er1 s).dn then d.to else 255)),(7,.sv 32 1 (s * d.sz).toNat ((s+1) * d.sz).toNat),(61,Ii ((((s+1) * d.sz).toNat - (s * d.sz).toNat:Nat):Int)),(62,Ii p.i)],[(0,.cells [Ii d.sz,.vw 32 0 0 0,.vw 33 0 0 0,Ii (d.er1 s).st,Ii (d.er1 s).lf,U d.to,.bool (d.er1 s).dn]),(32,.buf 5 [U 0] (u8s (orR d.by' (s * d.sz).toNat ((s * d.sz).toNat+p.i) (if (d.er1 s).dn then d.to else 255)))),(33,.buf 3 [Ii 0] (i64s (d.er1 s).wr))]⟩
abbrev L114a (d:Dv)(s:Int):LI:=⟨K114a d s,S114a d s,λp=>((s+1) * d.sz).toNat - (s * d.sz).toNat - p.i,λp q=>True⟩
theorem L114aS (d:Dv)(s:Int):(L114a d s).S=S114a d s:=rfl
theorem L114aR (d:Dv)(s:Int)(p q:K114a d s):(L114a d s).R p q=(True):=rfl
def I114 (d:Dv)(s:Int):Nat→LI:=λn=>L114a d s
theorem I114_0 (d:Dv)(s:Int):I114 d s 0=L114a d s:=rfl
theorem walk114 (P94:Phi 94=some CStep)(d:Dv)(s:Int)(hl:d.by'.length≤1000000)(hw:d.wr.length≤16)(h0:0≤d.sz)(h1:d.sz≤1024)(he:(d.by'.length:Int) =d.wr.length * d.sz):evC Phi (I114 d s) rc114 ⟨initS [.ptr 0 0,.int .i64 s],lookM d.gr⟩ (kRetG rv114 (λ(_ :Unit)=>(True,.int .i64 (d.erase s).1,(d.erase s).2.gr))):=by
 simp (maxSteps:=2000000) only [rc114,Dv.gr,Dv.cs,rv114,pk,un,Nat.reduceEqDiff,↓reduceIte,Nat.reduceAdd,exists_const,Nat.reduceLeDiff,i64s_set',P94,CStep,Dv.step_sz,Dv.step_to,Dv.step_by,Dv.step_wr,Nat.reduceLT,Nat.reduceBEq,Dv.de_gr,Qh0,Qg0,Dv.er1_eq,Option.isSome_some,Nat.reduceMul,I114_0,L114aS,S114a,L114aR,u8s_set']
 refine ⟨λh=>?_,λh=>⟨λhb=>?_,λhb=>?_⟩⟩
 · rw [Dv.erase,if_pos h]; exact ⟨rfl,⟨rfl,rfl,rfl,rfl,rfl⟩,rfl,rfl⟩
 · have hb':s < 0∨(d.wr.length:Int)≤s:=by simpa using hb
   rw [Dv.erase,if_neg (by rw [h]; decide),if_pos hb']; exact ⟨rfl,⟨rfl,rfl,rfl,rfl,rfl⟩,rfl,rfl⟩
 · have hb':¬ (s < 0∨(d.wr.length:Int)≤s):=by simpa using hb
   have hs:0≤s∧s < d.wr.length:=by omega
   have p1:0≤s * d.sz:=Int.mul_nonneg hs.1 h0
   have p2:(s+1) * d.sz≤d.wr.length * d.sz:=Int.mul_le_mul_of_nonneg_right (by omega) h0
   have p3:(s+1) * d.sz=s * d.sz+d.sz:=by rw [Int.add_mul,Int.one_mul]
   have w0:IntKind.i64.wrap (s+1) =s+1:=wr_in _ (by omega) (by omega)
   have w1:IntKind.i64.wrap (s * d.sz) =s * d.sz:=wr_in _ (by omega) (by omega)
   have w2:IntKind.i64.wrap ((s+1) * d.sz) =(s+1) * d.sz:=wr_in _ (by omega) (by omega)
   have hE:d.erase s=(if (d.er1 s).dn then 10 else 0,⟨d.sz,orR d.by' (s * d.sz).toNat ((s+1) * d.sz).toNat (if (d.er1 s).dn then d.to else 255),(d.er1 s).wr,(d.er1 s).st,(d.er1 s).lf,d.to,(d.er1 s).dn⟩):=by
    rw [Dv.erase,if_neg (by rw [h]; decide),if_neg hb']
   rw [w0,w1,w2,hE]
   generalize hlo:(s * d.sz).toNat=lo
   generalize hhh:((s+1) * d.sz).toNat=hh
   refine ⟨⟨hs.1,hs.2⟩,λ_=>⟨by omega,⟨hs.1,hs.2⟩,λ_=>⟨by omega,λ_=>⟨λhd=>?_,λhd=>?_⟩⟩⟩⟩
   · simp only [hd,if_true,true_imp_iff,Bool.true_eq_false,false_imp_iff,and_true]
     refine ⟨⟨p1,by omega,by omega⟩,λ_=>⟨⟨0,by omega⟩,by simp [orR_nil,Dv.er1_wr],?_⟩⟩
     rintro ⟨i,hi⟩
     dsimp only
     rw [orR_len]
     refine ⟨λhc=>?_,λhc=>?_⟩
     · have hc:=of_decide_eq_true hc
       refine ⟨⟨by omega,hc,by omega,by omega⟩,by omega,⟨by omega,hc,by omega,by omega⟩,by omega,⟨⟨i+1,by omega⟩,⟨congrArg _ (wr_succ i (by omega)),?_⟩,by dsimp only; omega⟩⟩
       rw [orR_get _ _ _ _ (by omega),orR_set _ _ _ _ (by omega),Nat.add_assoc]
     · have hc:=of_decide_eq_false hc
       have e:lo+i=hh:=by omega
       rw [e]
       try simp
   · simp only [hd,Bool.false_eq_true,if_false,true_imp_iff,false_imp_iff,true_and]
     refine ⟨⟨p1,by omega,by omega⟩,λ_=>⟨⟨0,by omega⟩,by simp [orR_nil,Dv.er1_wr],?_⟩⟩
     rintro ⟨i,hi⟩
     dsimp only
     rw [orR_len]
     refine ⟨λhc=>?_,λhc=>?_⟩
     · have hc:=of_decide_eq_true hc
       refine ⟨⟨by omega,hc,by omega,by omega⟩,by omega,⟨by omega,hc,by omega,by omega⟩,by omega,⟨⟨i+1,by omega⟩,⟨congrArg _ (wr_succ i (by omega)),?_⟩,by dsimp only; omega⟩⟩
       rw [orR_get _ _ _ _ (by omega),orR_set _ _ _ _ (by omega),Nat.add_assoc]
     · have hc:=of_decide_eq_false hc
       have e:lo+i=hh:=by omega
       rw [e]
       try simp
theorem walk54 (e:Ev):evC Phi (noI) rc54 ⟨initS [(.agg e.cs)],initM false []⟩ (kRet rv54 (.bool (vE e)) false []):=by
 simp (maxSteps:=2000000) only [rc54,Ev.cs,pk,un,rv54,Nat.reduceAdd,↓reduceIte,Nat.reduceEqDiff]
 simp only [vE,Bool.and_assoc]
theorem walk57 (P54:Phi 54=some CVE)(e:Ev)(hv:vE e=true):evC Phi (noI) rc57 ⟨initS [(.agg e.cs)],initM false []⟩ (kRetX rv57 false (λ(_ :Unit)=>(True,.tup [.fr 0 5 [.int .u8 0] (u8s (encE e)),.int .i64 0],[]))):=by
 simp (maxSteps:=2000000) only [rc57,Ev.cs,pk,un,rv57,Nat.reduceAdd,↓reduceIte,Nat.reduceEqDiff,Nat.reduceLeDiff,P54,CVE,Ev.eta,Nat.reduceLT,exists_const,Int.reduceLE,Int.reduceToNat,Nat.reduceMul]
 refine ⟨λh=>?_,λ_=>⟨λh=>⟨by decide,by decide,by decide,?_⟩,λh=>⟨by decide,by decide,by decide,?_⟩⟩⟩
 · rw [hv] at h; cases h
 · rw [encE,kO,if_pos h]; rfl
 · rw [encE,kO,if_neg (by rw [h]; decide)]; rfl
theorem walk115 (n:Int):evC Phi (noI) rc115 ⟨initS [.int .i64 n],initM false []⟩ (kRetX rv115 false (λ(_ :Unit)=>(True,.fr 0 5 [.int .u8 0] (u8s (w4 n)),[]))):=by
 simp (maxSteps:=2000000) only [rc115,pk,un,rv115,Nat.reduceEqDiff,↓reduceIte,Nat.reduceLeDiff,Nat.reduceAdd,Nat.reduceLT,Nat.reduceMul,exists_const]
 rfl
theorem walk55 (x:Int):evC Phi (noI) rc55 ⟨initS [Ii x],initM false []⟩ (kRet rv55 (Ii (slD x)) false []):=by
 simp (maxSteps:=2000000) only [rc55,pk,un,rv55,Nat.reduceEqDiff,↓reduceIte]
 exact ⟨by decide,rfl⟩
theorem walk59 (x:Int):evC Phi (noI) rc59 ⟨initS [.int .u16 x],initM false []⟩ (kRet rv59 (.int .u16 (beh x)) false []):=by
 simp (maxSteps:=2000000) only [rc59,pk,un,rv59,Nat.reduceEqDiff,↓reduceIte]
 exact ⟨λh=>by rw [beh,if_pos (of_decide_eq_true h)],λh=>by rw [beh,if_neg (of_decide_eq_false h)]⟩
theorem walk88 (l:List Int)(hl:4≤l.length):evC Phi (noI) rc88 ⟨initS [.lst [U 0] (u8s l)],initM false []⟩ (kRet rv88 (Ii (rd4 l)) false []):=by
 simp (maxSteps:=2000000) only [rc88,pk,un,rv88,Nat.reduceEqDiff,↓reduceIte,Int.reduceLE,Int.reduceToNat,Nat.reduceAdd,Nat.reduceLeDiff,Nat.reduceBEq]
 exact ⟨by omega,by omega,by omega,by omega,λ_ _ _ _=>rfl⟩
theorem walk89 (l:List Int)(i:Int)(hl:l.length≤1024)(h0:0≤i)(h1:11+i * 17+17≤l.length):evC Phi (noI) rc89 ⟨initS [.lst [U 0] (u8s l),Ii i],initM false []⟩ (kRet rv89 (.lst [U 0] (u8s (slot l i))) false []):=by
 simp (maxSteps:=2000000) only [rc89,pk,un,rv89,Nat.reduceEqDiff,↓reduceIte,u8s_drop,Zx0]
 have w1:IntKind.i64.wrap (i * 17) =i * 17:=wr_in _ (by omega) (by omega)
 have w2:IntKind.i64.wrap (11+i * 17) =11+i * 17:=wr_in _ (by omega) (by omega)
 have w3:IntKind.i64.wrap (11+i * 17+17) =11+i * 17+17:=wr_in _ (by omega) (by omega)
 rw [w1,w2,w3]
 refine ⟨⟨by omega,by omega,by omega⟩,?_⟩
 rw [slot,show (11+i * 17+17).toNat - (11+i * 17).toNat=17 by omega]
theorem walk113 (x:Int):evC Phi (noI) rc113 ⟨initS [U x],initM false []⟩ (kRet rv113 (.bool (nFF x)) false []):=by
 simp (maxSteps:=2000000) only [rc113,pk,un,rv113,Nat.reduceEqDiff,↓reduceIte]
 rfl
structure K126a (l:List Int) where
 i:Nat
 hi:i≤l.length
 hn:∀ j,j < i→nFF (l.getD j 0) =false
def S126a (l:List Int)(p:K126a l):SL:=⟨[(0,.lst [U 0] (u8s l)),(1,.fn 113),(7,Ii l.length),(8,Ii p.i)],[]⟩
abbrev L126a (l:List Int):LI:=⟨K126a l,S126a l,λp=>l.length - p.i,λp q=>True⟩
theorem L126aS (l:List Int):(L126a l).S=S126a l:=rfl
theorem L126aR (l:List Int)(p q:K126a l):(L126a l).R p q=(True):=rfl
def I126 (l:List Int):Nat→LI:=λn=>L126a l
theorem I126_0 (l:List Int):I126 l 0=L126a l:=rfl
theorem walk126 (P113:Phi 113=some CNf)(l:List Int)(hl:l.length≤1000000):evC Phi (I126 l) rc126 ⟨initS [.lst [U 0] (u8s l),.fn 113],initM false []⟩ (kRet rv126 (Ii (ixF nFF l)) false []):=by
 simp (maxSteps:=2000000) only [rc126,pk,un,rv126,Nat.reduceEqDiff,↓reduceIte,I126_0,L126aS,S126a,L126aR,fs_113,P113,CNf]
 intro _
 refine ⟨⟨0,Nat.zero_le _,λj hj=>absurd hj (Nat.not_lt_zero j)⟩,rfl,?_⟩
 rintro ⟨i,hi,hn⟩
 dsimp only
 refine ⟨λhc=>?_,λhc=>?_⟩
 · have hc:=of_decide_eq_true hc
   refine ⟨⟨by omega,hc⟩,λ_=>⟨λh=>?_,λh=>⟨⟨i+1,by omega,λj hj=>?_⟩,congrArg _ (wr_succ i (by omega)),by dsimp only; omega⟩⟩⟩
   · rw [ixF_hit nFF l 0 i hn (by omega) h]
   · by_cases e:j=i
     · subst e; exact h
     · exact hn j (by omega)
 · have hc:=of_decide_eq_false hc
   rw [ixF_not nFF l 0 (λj hj=>hn j (by omega))]
theorem walk112 (P126:Phi 126=some CIx)(l:List Int)(hl:l.length≤1000000):evC Phi (noI) rc112 ⟨initS [.lst [U 0] (u8s l),.fn 113],initM false []⟩ (kRet rv112 (.bool (l.any nFF)) false []):=by
 simp (maxSteps:=2000000) only [rc112,pk,un,rv112,Nat.reduceEqDiff,↓reduceIte,P126,CIx,Qh0]
 exact ⟨hl,by rw [ixF_ge]⟩
theorem walk90 (P112:Phi 112=some CCo)(l:List Int)(hl:l.length≤1000000):evC Phi (noI) rc90 ⟨initS [.lst [U 0] (u8s l)],initM false []⟩ (kRet rv90 (.bool (!l.any nFF)) false []):=by
 simp (maxSteps:=2000000) only [rc90,pk,un,rv90,Nat.reduceEqDiff,↓reduceIte,P112,CCo,Qh0]
 exact hl
def evs (l:List Ev):List (List AV):=l.map Ev.cs
theorem evs_len (l:List Ev):(evs l).length=l.length:=by simp [evs]
theorem getE_ev (l:List Ev)(i:Nat):getE [.int .u16 0,.int .u32 0,.int .u16 0,.int .u8 0,.int .u8 0,.int .u8 0,.bool false,.int .u8 0,.int .u8 0,.int .u8 0] (evs l) i=(l.getD i ev0).cs:=getE_map _ Ev.cs ev0 rfl l i
structure Rc where
 q:Int
 e:Ev
def rc0':Rc:=⟨0,ev0⟩
def Rc.cs (r:Rc):List AV:= .int .i64 r.q::r.e.cs
def rcs (l:List Rc):List (List AV):=l.map Rc.cs
theorem rcs_len (l:List Rc):(rcs l).length=l.length:=by simp [rcs]
theorem getE_rc (l:List Rc)(i:Nat):getE [.int .i64 0,.int .u16 0,.int .u32 0,.int .u16 0,.int .u8 0,.int .u8 0,.int .u8 0,.bool false,.int .u8 0,.int .u8 0,.int .u8 0] (rcs l) i=(l.getD i rc0').cs:=getE_map _ Rc.cs rc0' rfl l i
theorem rcs_app (l:List Rc)(q:Int)(e:Ev):rcs l ++ [[.int .i64 q,.int .u16 e.id,.int .u32 e.t,.int .u16 e.g,.int .u8 e.st,.int .u8 e.sn,.int .u8 e.ty,.bool e.de,.int .u8 e.a,.int .u8 e.b,.int .u8 e.c]] =rcs (l ++ [⟨q,e⟩]):=by simp [rcs,Rc.cs,Ev.cs]
def decR (es:List (List AV)):List Rc:=es.map λr=>match r with
 | [.int _ q,.int _ id,.int _ t,.int _ g,.int _ st,.int _ sn,.int _ ty,.bool de,.int _ a,.int _ b,.int _ c]=>⟨q,⟨id,t,g,st,sn,ty,de,a,b,c⟩⟩
 | _=>rc0'
theorem decR_rcs (l:List Rc):decR (rcs l) =l:=by
 simp only [decR,rcs,List.map_map]
 exact List.map_id'' (λe=>rfl) l
def g0 (l:List Int)(i:Nat):Int:=l.getD i 0
def o16 (a b:Int):Int:=bitsI .or .u16 (IntKind.u16.wrap a) (IntKind.u16.wrap (IntKind.u16.wrap b * 2 ^ 8))
def decV (l:List Int):Ev:=⟨o16 (g0 l 0) (g0 l 1),
 bitsI .or .u32 (bitsI .or .u32 (bitsI .or .u32 (IntKind.u32.wrap (g0 l 3)) (IntKind.u32.wrap (IntKind.u32.wrap (g0 l 4) * 2 ^ 8))) (IntKind.u32.wrap (IntKind.u32.wrap (g0 l 5) * 2 ^ 16))) (IntKind.u32.wrap (IntKind.u32.wrap (g0 l 6) * 2 ^ 24)),
 o16 (g0 l 7) (g0 l 8),g0 l 10,g0 l 11,bitsI .andNot .u8 (g0 l 12) 128,!decide (bitsI .and .u8 (g0 l 12) 128=0),g0 l 13,g0 l 14,g0 l 15⟩
def dcK (l:List Int):Int:=if g0 l 2=2∧g0 l 9=4 then (if vE (decV l) then 0 else 1) else 6
def dcE (l:List Int):Ev:=if dcK l=0 then decV l else ev0
def CDc:Ctr:= .mk false λ_ xs=>match xs with
 | [.lst zz es]=>some ((zz= [.int .u8 0]∧es=u8s (decU es))∧es.length=16,.tup [.agg (dcE (decU es)).cs,.int .i64 (dcK (decU es))],[])
 | _=>none
structure Hd where
 s:Int
 t:Int
 i:Int
def hdL (l:List Int):Hd:=⟨rd4 l,rd4 (l.drop 4),o16 (g0 l 8) (g0 l 9)⟩
def hdK (se:Int)(l:List Int)(j:Int):Bool:=decide (g0 l 10=0) && decide (1≤(hdL l).s) && decide ((hdL l).s≤2147483648) && decide ((W ((hdL l).s - 1)).tmod se=j) && decide (1≤(hdL l).t) && decide ((hdL l).t≤(hdL l).s) && decide (W ((hdL l).s - (hdL l).t)≤W (se - 2)) && decide (1≤(hdL l).i) && decide ((hdL l).i≤65534)
def CHd:Ctr:= .mk false λ_ xs=>match xs with
 | [.ep yy [[c0,c1,.int .i64 se,c3,c4,c5,c6,c7,r,c9,c10,c11,c12]] 0 0,.lst zz es,.int .i64 j]=>some (yy= [c0,c1,.int .i64 se,c3,c4,c5,c6,c7,r,c9,c10,c11,c12]∧((zz= [.int .u8 0]∧es=u8s (decU es))∧11≤es.length)∧se≠0,.tup [.agg [.int .i64 (hdL (decU es)).s,.int .i64 (hdL (decU es)).t,.int .u16 (hdL (decU es)).i],.bool (hdK se (decU es) j)],[])
 | _=>none
def CLen:Ctr:= .mk false λ_ xs=>match xs with
 | [.ep yy [[c0,c1,.int .i64 se,c3,c4,c5,c6,c7,.nil,c9,c10,c11,c12]] 0 0]=>some (yy= [c0,c1,.int .i64 se,c3,c4,c5,c6,c7,.nil,c9,c10,c11,c12],.int .i64 0,[])
 | [.ep yy [[c0,c1,.int .i64 se,c3,c4,c5,c6,c7,.lst zz es,c9,c10,c11,c12]] 0 0]=>some (yy= [c0,c1,.int .i64 se,c3,c4,c5,c6,c7,.lst zz es,c9,c10,c11,c12],.int .i64 es.length,[])
 | _=>none
def CLt:Ctr:= .mk false λ_ xs=>match xs with
 | [.agg [.int .i64 q,.int .u16 id,.int .u32 t,.int .u16 g,.int .u8 st,.int .u8 sn,.int .u8 ty,.bool de,.int .u8 a,.int .u8 b,.int .u8 c],.ep [.int .i64 _] [[.int .i64 k]] 0 0]=>some (True,.bool (decide (q < k)),[])
 | _=>none
structure Lg where
 fi:Int
 se:Int
 ov:Bool
 nw:Int
 tl:Int
 us:Int
 nx:Int
 rs:List Rc
 fu:Bool
 nu:Int
 he:Bool
def Lg.cs (g:Lg)(r:AV):List AV:=[.ptr 1 0,.int .i64 g.fi,.int .i64 g.se,.bool g.ov,.int .i64 g.nw,.int .i64 g.tl,.int .i64 g.us,.int .u16 g.nx,r,.bool g.fu,.int .u16 g.nu,.bool g.he,.bool false]
abbrev Lg.eta (g:Lg):Lg.mk g.fi g.se g.ov g.nw g.tl g.us g.nx g.rs g.fu g.nu g.he=g:=rfl
def dead:List AV:=[.junk,.int .i64 0,.int .i64 0,.bool false,.int .i64 0,.int .i64 0,.int .i64 0,.int .u16 0,.nil,.bool false,.int .u16 0,.bool false,.bool true]
def Dv.sd (d:Dv)(b:Bool):Dv:=⟨d.sz,d.by',d.wr,d.st,d.lf,d.to,b⟩
theorem Dv.sd_sz (d:Dv)(b:Bool):(d.sd b).sz=d.sz:=rfl
theorem Dv.sd_by (d:Dv)(b:Bool):(d.sd b).by'=d.by':=rfl
theorem Dv.sd_wr (d:Dv)(b:Bool):(d.sd b).wr=d.wr:=rfl
theorem Dv.sd_st (d:Dv)(b:Bool):(d.sd b).st=d.st:=rfl
theorem Dv.sd_lf (d:Dv)(b:Bool):(d.sd b).lf=d.lf:=rfl
theorem Dv.sd_to (d:Dv)(b:Bool):(d.sd b).to=d.to:=rfl
theorem Dv.sd_dn (d:Dv)(b:Bool):(d.sd b).dn=b:=rfl
def Dv.bl (d:Dv)(o i j:Nat):List (Nat×Blk):=[(o,.cells (d.cs i j)),(i,.buf 5 [.int .u8 0] (u8s d.by')),(j,.buf 3 [.int .i64 0] (i64s d.wr))]
def grR (g:Lg)(d:Dv):List (Nat×Blk):=[(0,.cells (g.cs (.vw 32 0 0 0))),(1,.cells (d.cs 33 34)),(32,.buf 148 [.int .i64 0,.int .u16 0,.int .u32 0,.int .u16 0,.int .u8 0,.int .u8 0,.int .u8 0,.bool false,.int .u8 0,.int .u8 0,.int .u8 0] (rcs g.rs)),(33,.buf 5 [.int .u8 0] (u8s d.by')),(34,.buf 3 [.int .i64 0] (i64s d.wr))]
def lg0:Lg:=⟨0,0,false,0,0,0,0,[],false,0,false⟩
def deG (bs:List (Nat×Blk)):Lg:=match bs with
 | [(_,.cells [_,.int _ fi,.int _ se,.bool ov,.int _ nw,.int _ tl,.int _ us,.int _ nx,.nil,.bool fu,.int _ nu,.bool he,_]),_,_,_]=>⟨fi,se,ov,nw,tl,us,nx,[],fu,nu,he⟩
 | [(_,.cells [_,.int _ fi,.int _ se,.bool ov,.int _ nw,.int _ tl,.int _ us,.int _ nx,.vw _ _ _ _,.bool fu,.int _ nu,.bool he,_]),_,(_,.buf _ _ rs),_,_]=>⟨fi,se,ov,nw,tl,us,nx,decR rs,fu,nu,he⟩
 | _=>lg0
def deD (bs:List (Nat×Blk)):Dv:=match bs with
 | [_,c,b,w]=>Dv.de [c,b,w]
 | [_,c,_,b,w]=>Dv.de [c,b,w]
 | _=>d0
theorem deG_R (a b c e f T r1 r2 r3 r4:Nat)(x y:AV)(k1 k2 k3 k4 k5 k6 k7:IntKind)(fi se nw tl us nx nu:Int)(ov fu he:Bool)(B C E:Blk)(z:List AV)(rs:List (List AV)):
 deG [(a,.cells [x,.int k1 fi,.int k2 se,.bool ov,.int k3 nw,.int k4 tl,.int k5 us,.int k6 nx,.vw r1 r2 r3 r4,.bool fu,.int k7 nu,.bool he,y]),(b,B),(f,.buf T z rs),(c,C),(e,E)] = ⟨fi,se,ov,nw,tl,us,nx,decR rs,fu,nu,he⟩:=by rfl
theorem deD_R (p c r b w:Nat×Blk):deD [p,c,r,b,w] =Dv.de [c,b,w]:=by rfl
def CDwn:Ctr:= .gr Bool [] true λbs xs=>match xs with
 | [.ptr 0 0]=>(match bs with
   | [_,_,_,_,_]=>some (bs=grR (deG bs) (deD bs),λb=>((deD bs).dn=b,.bool b,match b with
     | false=>grR (deG bs) ((deD bs).sd false)
     | true=>(0,.cells dead)::((deD bs).sd true).bl 1 33 34))
   | _=>none)
 | _=>none
theorem walk91 (P54:Phi 54=some CVE)(l:List Int)(hl:l.length=16):evC Phi (noI) rc91 ⟨initS [.lst [U 0] (u8s l)],initM false []⟩ (kRet rv91 (.tup [.agg (dcE l).cs,Ii (dcK l)]) false []):=by
 simp (maxSteps:=2000000) only [rc91,pk,un,rv91,Ev.cs,Nat.reduceMul,Nat.reduceAdd,Nat.reduceEqDiff,↓reduceIte,Nat.reduceLeDiff,Int.reduceLE,Int.reduceToNat,u8s_drop,Zx0,Nat.reduceLT,Qf0,P54,CVE,Nat.reduceBEq]
 have ht:∀ k,k < 3→(List.take (l.length - 13) (List.drop 13 l)).getD k 0=l.getD (13+k) 0:=by
  intro k hk
  have:13+k < l.length:=by omega
  simp [List.getD_eq_getElem?_getD,List.getElem?_take,List.getElem?_drop,hl,hk,List.getElem?_eq_getElem this]
 have h16:(16:Int) < l.length→False:=by omega
 refine λ_=>⟨λh=>absurd (of_decide_eq_true h) (by omega),λ_ _=>⟨λ_=>by omega,λ_=>by omega,λh=>?_,λh=>?_⟩⟩
 · have hk:dcK l=6:=by
    rw [dcK,if_neg]
    rintro ⟨h1,h2⟩
    have h1:l.getD 2 0=2:=h1
    have h2:l.getD 9 0=4:=h2
    rw [h1,h2,decide_eq_false h16] at h
    cases h
   rw [dcE,hk,if_neg (by decide)]
   exact ⟨⟨rfl,rfl,rfl,rfl,rfl,rfl,rfl,rfl,rfl,rfl⟩,rfl⟩
 · have hh:g0 l 2=2∧g0 l 9=4:=by
    simp only [Bool.or_eq_false_iff,Bool.not_eq_false',decide_eq_true_eq] at h
    exact ⟨h.1.2,h.2⟩
   refine ⟨by omega,by omega,by omega,by omega,by omega,by omega,by omega,by omega,by omega,by omega,by omega,by omega,by omega,by simp only [List.length_take,List.length_drop]; omega,?_⟩
   intro _ _ _ _ _ _ _ _ _ _ _ _
   rw [ht 0 (by omega),ht 1 (by omega),ht 2 (by omega)]
   refine ⟨λhv=>?_,λhv=>?_⟩
   · have hv:(!vE (decV l)) =true:=hv
     have hk:dcK l=1:=by rw [dcK,if_pos hh,if_neg (by simpa using hv)]
     rw [dcE,hk,if_neg (by decide)]
     exact ⟨⟨rfl,rfl,rfl,rfl,rfl,rfl,rfl,rfl,rfl,rfl⟩,rfl⟩
   · have hv:(!vE (decV l)) =false:=hv
     have hk:dcK l=0:=by rw [dcK,if_pos hh,if_pos (by simpa using hv)]
     rw [dcE,hk,if_pos rfl]
     exact ⟨⟨rfl,rfl,rfl,rfl,rfl,rfl,rfl,rfl,rfl,rfl⟩,rfl⟩
theorem walk48 (P88:Phi 88=some CR4)(c0 c1 c3 c4 c5 c6 c7 c9 c10 c11 c12:AV)(se:Int)(r:AV)(l:List Int)(j:Int)(hl:11≤l.length)(hs:se≠0):evC Phi (noI) rc48 ⟨initS [.ep [c0,c1,Ii se,c3,c4,c5,c6,c7,r,c9,c10,c11,c12] [[c0,c1,Ii se,c3,c4,c5,c6,c7,r,c9,c10,c11,c12]] 0 0,.lst [U 0] (u8s l),Ii j],initM false []⟩ (kRet rv48 (.tup [.agg [Ii (hdL l).s,Ii (hdL l).t,.int .u16 (hdL l).i],.bool (hdK se l j)]) false []):=by
 simp (maxSteps:=2000000) only [rc48,pk,un,rv48,Nat.reduceMul,Nat.reduceAdd,Nat.reduceEqDiff,↓reduceIte,P88,CR4,Qh0,Int.reduceLE,Int.reduceToNat,u8s_drop,Zx0,Nat.reduceLeDiff,Qf0,Nat.reduceBEq]
 have hd:List.take (l.length - 4) (List.drop 4 l) =l.drop 4:=List.take_of_length_le (by simp)
 rw [hd]
 refine ⟨by omega,by omega,by simp only [List.length_drop]; omega,by omega,by omega,λ_ _=>⟨by omega,λ_=>hs,λ_=>?_⟩⟩
 exact ⟨⟨rfl,rfl,rfl⟩,rfl⟩
theorem walk23n (c0 c1 c3 c4 c5 c6 c7 c9 c10 c11 c12:AV)(se:Int):evC Phi (noI) rc23 ⟨initS [.ep [c0,c1,Ii se,c3,c4,c5,c6,c7,.nil,c9,c10,c11,c12] [[c0,c1,Ii se,c3,c4,c5,c6,c7,.nil,c9,c10,c11,c12]] 0 0],initM false []⟩ (kRet rv23 (Ii 0) false []):=by
 simp (maxSteps:=2000000) only [rc23,pk,un,rv23,Nat.reduceEqDiff,↓reduceIte,Qf0]
theorem walk23l (c0 c1 c3 c4 c5 c6 c7 c9 c10 c11 c12:AV)(se:Int)(z:List AV)(es:List (List AV)):evC Phi (noI) rc23 ⟨initS [.ep [c0,c1,Ii se,c3,c4,c5,c6,c7,(.lst z es),c9,c10,c11,c12] [[c0,c1,Ii se,c3,c4,c5,c6,c7,(.lst z es),c9,c10,c11,c12]] 0 0],initM false []⟩ (kRet rv23 (Ii es.length) false []):=by
 simp (maxSteps:=2000000) only [rc23,pk,un,rv23,Nat.reduceEqDiff,↓reduceIte,Qf0]
theorem walk117 (r:Rc)(k k':Int):evC Phi (noI) rc117 ⟨initS [.agg r.cs,.ep [Ii k'] [[Ii k]] 0 0],initM false []⟩ (kRet rv117 (.bool (decide (r.q < k))) false []):=by
 simp (maxSteps:=2000000) only [rc117,Rc.cs,Ev.cs,pk,un,rv117,Nat.reduceAdd,↓reduceIte,Nat.reduceMul,Nat.reduceEqDiff,Qf0]
structure Pt where
 r:Int
 v:Int
def pt0:Pt:=⟨0,0⟩
def Pt.cs (p:Pt):List AV:=[.int .u8 p.r,.int .i64 p.v]
def pts (l:List Pt):List (List AV):=l.map Pt.cs
theorem pts_len (l:List Pt):(pts l).length=l.length:=by simp [pts]
theorem getE_pt (l:List Pt)(i:Nat):getE [.int .u8 0,.int .i64 0] (pts l) i=(l.getD i pt0).cs:=getE_map _ Pt.cs pt0 rfl l i
theorem pts_app (l:List Pt)(r v:Int):pts l ++ [[.int .u8 r,.int .i64 v]] =pts (l ++ [⟨r,v⟩]):=by simp [pts,Pt.cs]
def decP (es:List (List AV)):List Pt:=es.map λr=>match r with
 | [.int _ r,.int _ v]=>⟨r,v⟩
 | _=>pt0
theorem decP_pts (l:List Pt):decP (pts l) =l:=by
 simp only [decP,pts,List.map_map]
 exact List.map_id'' (λe=>rfl) l
structure Cv where
 fo:Int
 sg:Bool
 m:Int
 b:Int
 k1:Int
 k2:Int
 pt:AV
def Cv.cs (c:Cv):List AV:=[.int .i64 c.fo,.bool c.sg,.int .i64 c.m,.int .i64 c.b,.int .i64 c.k1,.int .i64 c.k2,c.pt]
theorem Cv.eta (c:Cv):Cv.mk c.fo c.sg c.m c.b c.k1 c.k2 c.pt=c:=rfl
structure Se where
 nu:Int
 ty:Int
 un:Int
 nm:List UInt8
 ei:Int
 en:Int
 di:Bool
 fo:Int
 sg:Bool
 m:Int
 b:Int
 k1:Int
 k2:Int
 pt:AV
 mk':Int
 r0:Int
 r1:Int
 r2:Int
 r3:Int
 r4:Int
 r5:Int
 hl:Int
 hu:Int
 st:Int
 as':Int
 de:Int
 ho:Bool
 sa:Int
def Se.cs (s:Se):List AV:=[.int .u8 s.nu,.int .u8 s.ty,.int .u8 s.un,.str s.nm,.int .u8 s.ei,.int .u8 s.en,.bool s.di,.int .i64 s.fo,.bool s.sg,.int .i64 s.m,.int .i64 s.b,.int .i64 s.k1,.int .i64 s.k2,s.pt,.int .u8 s.mk',.int .u8 s.r0,.int .u8 s.r1,.int .u8 s.r2,.int .u8 s.r3,.int .u8 s.r4,.int .u8 s.r5,.int .u8 s.hl,.int .u8 s.hu,.int .u16 s.st,.int .u16 s.as',.int .u16 s.de,.bool s.ho,.int .i64 s.sa]
def Se.cv (s:Se):Cv:=⟨s.fo,s.sg,s.m,s.b,s.k1,s.k2,s.pt⟩
def se0:Se:=⟨0,0,0,[],0,0,false,0,false,0,0,0,0,.nil,0,0,0,0,0,0,0,0,0,0,0,0,false,0⟩
def seD (cs:List AV):Se:=match cs with
 | [.int _ nu,.int _ ty,.int _ un,.str nm,.int _ ei,.int _ en,.bool di,.int _ fo,.bool sg,.int _ m,.int _ b,.int _ k1,.int _ k2,pt,.int _ mk,.int _ r0,.int _ r1,.int _ r2,.int _ r3,.int _ r4,.int _ r5,.int _ hl,.int _ hu,.int _ st,.int _ as',.int _ de,.bool ho,.int _ sa]=>⟨nu,ty,un,nm,ei,en,di,fo,sg,m,b,k1,k2,pt,mk,r0,r1,r2,r3,r4,r5,hl,hu,st,as',de,ho,sa⟩
 | _=>se0
theorem seD_lit (s:Se):seD [.int .u8 s.nu,.int .u8 s.ty,.int .u8 s.un,.str s.nm,.int .u8 s.ei,.int .u8 s.en,.bool s.di,.int .i64 s.fo,.bool s.sg,.int .i64 s.m,.int .i64 s.b,.int .i64 s.k1,.int .i64 s.k2,s.pt,.int .u8 s.mk',.int .u8 s.r0,.int .u8 s.r1,.int .u8 s.r2,.int .u8 s.r3,.int .u8 s.r4,.int .u8 s.r5,.int .u8 s.hl,.int .u8 s.hu,.int .u16 s.st,.int .u16 s.as',.int .u16 s.de,.bool s.ho,.int .i64 s.sa] =s:=rfl
def Se.rw (s:Se):Nat→Int
 | 0=>s.r0
 | 1=>s.r1
 | 2=>s.r2
 | 3=>s.r3
 | 4=>s.r4
 | 5=>s.r5
 | _=>0
inductive I7 where
 | a0 | a1 | a2 | a3 | a4 | a5 | a6
def I7.n:I7→Nat
 | .a0=>0
 | .a1=>1
 | .a2=>2
 | .a3=>3
 | .a4=>4
 | .a5=>5
 | .a6=>6
theorem forall_I7 {P:I7→Prop}:(∀ i,P i)↔P .a0∧P .a1∧P .a2∧P .a3∧P .a4∧P .a5∧P .a6:=by
 constructor
 · intro h; exact ⟨h _,h _,h _,h _,h _,h _,h _⟩
 · rintro ⟨h0,h1,h2,h3,h4,h5,h6⟩ i; cases i<;>assumption
theorem I7n0:I7.a0.n=0:=rfl
theorem I7n1:I7.a1.n=1:=rfl
theorem I7n2:I7.a2.n=2:=rfl
theorem I7n3:I7.a3.n=3:=rfl
theorem I7n4:I7.a4.n=4:=rfl
theorem I7n5:I7.a5.n=5:=rfl
theorem I7n6:I7.a6.n=6:=rfl
def I7.z:I7→Int
 | .a0=>0
 | .a1=>1
 | .a2=>2
 | .a3=>3
 | .a4=>4
 | .a5=>5
 | .a6=>6
theorem I7z0:I7.a0.z=0:=rfl
theorem I7z1:I7.a1.z=1:=rfl
theorem I7z2:I7.a2.z=2:=rfl
theorem I7z3:I7.a3.z=3:=rfl
theorem I7z4:I7.a4.z=4:=rfl
theorem I7z5:I7.a5.z=5:=rfl
theorem I7z6:I7.a6.z=6:=rfl
def num (sg:Bool)(r:Int):Int:=if sg then W (IntKind.i8.wrap r) else W r
def CNum:Ctr:= .mk false λ_ xs=>match xs with
 | [.bool sg,.int .u8 r]=>some (True,.int .i64 (num sg r),[])
 | _=>none
def fac (n:Int):Bool:=decide (-512≤n) && decide (n≤511)
def pow' (n:Int):Bool:=decide (-3≤n) && decide (n≤3)
def clp (v:Int):Int:=max (-1000000000000) (min v 1000000000000)
def CFac:Ctr:= .mk false λ_ xs=>match xs with
 | [.int .i64 n]=>some (True,.bool (fac n),[])
 | _=>none
def CPow:Ctr:= .mk false λ_ xs=>match xs with
 | [.int .i64 n]=>some (True,.bool (pow' n),[])
 | _=>none
def CClp:Ctr:= .mk false λ_ xs=>match xs with
 | [.int .i64 n]=>some (True,.int .i64 (clp n),[])
 | _=>none
def CNan:Ctr:= .mk false λ_ xs=>match xs with
 | [.int .i64 n]=>some (True,.bool false,[])
 | _=>none
def CLss:Ctr:= .mk false λ_ xs=>match xs with
 | [.int .i64 a,.int .i64 b]=>some (True,.bool (decide (a < b)),[])
 | _=>none
def cmp3 (a b:Int):Int:=if a < b then -1 else if b < a then 1 else 0
def CCmp:Ctr:= .mk false λ_ xs=>match xs with
 | [.int .i64 a,.int .i64 b]=>some (True,.int .i64 (cmp3 a b),[])
 | _=>none
def asc (l:List Int):Prop:=∀ i,i+1 < l.length→l.getD i 0≤l.getD (i+1) 0
def CSrt:Ctr:= .mk false λ_ xs=>match xs with
 | [.lst z es]=>some ((z= [.int .i64 0]∧es=i64s (decU es))∧es.length≤100000∧asc (decU es),.bool true,[])
 | _=>none
def okN (s:List UInt8):Prop:=(∀ i,i < s.length→32≤((s.getD i 0).toNat:Int)∧((s.getD i 0).toNat:Int)≤126)∧1≤s.length∧s.length≤16
def CNmd:Ctr:= .mk false λ_ xs=>match xs with
 | [.str s]=>some (okN s,.bool true,[])
 | _=>none
def okT (sg:Bool)(l:List Pt):Prop:=2≤l.length∧l.length≤12∧(∀ i,i < l.length→-1000000000000≤(l.getD i pt0).v∧(l.getD i pt0).v≤1000000000000)∧∀ i,i+1 < l.length→num sg (l.getD i pt0).r < num sg (l.getD (i+1) pt0).r
def CTab:Ctr:= .mk false λ_ xs=>match xs with
 | [.agg [.int .i64 _,.bool sg,.int .i64 _,.int .i64 _,.int .i64 _,.int .i64 _,.lst z es]]=>some ((z= [.int .u8 0,.int .i64 0]∧es=pts (decP es))∧okT sg (decP es),.bool true,[])
 | _=>none
theorem walk14 (sg:Bool)(r:Int):evC Phi (noI) rc14 ⟨initS [.bool sg,U r],initM false []⟩ (kRet rv14 (Ii (num sg r)) false []):=by
 simp (maxSteps:=2000000) only [rc14,pk,un,rv14,Nat.reduceEqDiff,↓reduceIte]
 refine ⟨λh=>?_,λh=>?_⟩<;>rw [num,h]<;>rfl
theorem walk128 (n:Int):evC Phi (noI) rc128 ⟨initS [Ii n],initM false []⟩ (kRet rv128 (.bool (fac n)) false []):=by
 simp (maxSteps:=2000000) only [rc128,pk,un,rv128,Nat.reduceEqDiff,↓reduceIte]
 rfl
theorem walk129 (n:Int):evC Phi (noI) rc129 ⟨initS [Ii n],initM false []⟩ (kRet rv129 (.bool (pow' n)) false []):=by
 simp (maxSteps:=2000000) only [rc129,pk,un,rv129,Nat.reduceEqDiff,↓reduceIte]
 rfl
theorem walk143 (n:Int):evC Phi (noI) rc143 ⟨initS [Ii n],initM false []⟩ (kRet rv143 (Ii (clp n)) false []):=by
 simp (maxSteps:=2000000) only [rc143,pk,un,rv143,Nat.reduceEqDiff,↓reduceIte]
 rfl
theorem walk109 (n:Int):evC Phi (noI) rc109 ⟨initS [Ii n],initM false []⟩ (kRet rv109 (.bool false) false []):=by
 simp (maxSteps:=2000000) only [rc109,pk,un,rv109,Nat.reduceEqDiff,↓reduceIte]
theorem walk144 (P109:Phi 109=some CNan)(a b:Int):evC Phi (noI) rc144 ⟨initS [Ii a,Ii b],initM false []⟩ (kRet rv144 (.bool (decide (a < b))) false []):=by
 simp (maxSteps:=2000000) only [rc144,pk,un,rv144,Nat.reduceEqDiff,↓reduceIte,P109,CNan]
 simp only [Bool.false_or]
theorem walk84 (P109:Phi 109=some CNan)(a b:Int):evC Phi (noI) rc84 ⟨initS [Ii a,Ii b],initM false []⟩ (kRet rv84 (Ii (cmp3 a b)) false []):=by
 simp (maxSteps:=2000000) only [rc84,pk,un,rv84,Nat.reduceEqDiff,↓reduceIte,P109,CNan]
 refine ⟨λh=>?_,λh=>⟨λh2=>?_,λh2=>?_⟩⟩
 · rw [cmp3,if_pos (of_decide_eq_true h)]
 · rw [cmp3,if_neg (of_decide_eq_false h),if_pos (of_decide_eq_true h2)]
 · rw [cmp3,if_neg (of_decide_eq_false h),if_neg (of_decide_eq_false h2)]
structure K132a (l:List Int) where
 i:Nat
 hi:i≤l.length
def S132a (l:List Int)(p:K132a l):SL:=⟨[(0,.lst [Ii 0] (i64s l)),(3,Ii ((l.length:Int) - 1 - p.i))],[]⟩
abbrev L132a (l:List Int):LI:=⟨K132a l,S132a l,λp=>l.length - p.i,λp q=>True⟩
theorem L132aS (l:List Int):(L132a l).S=S132a l:=rfl
theorem L132aR (l:List Int)(p q:K132a l):(L132a l).R p q=(True):=rfl
def I132 (l:List Int):Nat→LI:=λn=>L132a l
theorem I132_0 (l:List Int):I132 l 0=L132a l:=rfl
theorem walk132 (P144:Phi 144=some CLss)(l:List Int)(hl:l.length≤100000)(ha:asc l):evC Phi (I132 l) rc132 ⟨initS [.lst [Ii 0] (i64s l)],initM false []⟩ (kRet rv132 (.bool true) false []):=by
 simp (maxSteps:=2000000) only [rc132,pk,un,rv132,Nat.reduceEqDiff,↓reduceIte,I132_0,L132aS,S132a,L132aR,Nat.reduceMul,Nat.reduceAdd,P144,CLss,Nat.reduceBEq]
 intro _
 refine ⟨⟨0,Nat.zero_le _⟩,congrArg _ ?_,?_⟩
 · rw [wr_in _ (by omega) (by omega)]
   simp
 · rintro ⟨i,hi⟩ hc
   dsimp only at hc ⊢
   have hc:=of_decide_eq_true hc
   have e1:IntKind.i64.wrap ((l.length:Int) - 1 - i - 1) =(l.length:Int) - 1 - i - 1:=wr_in _ (by omega) (by omega)
   rw [e1]
   have e2:((l.length:Int) - 1 - i).toNat=((l.length:Int) - 1 - i - 1).toNat+1:=by omega
   refine ⟨⟨by omega,by omega⟩,⟨by omega,by omega⟩,λ_ _=>⟨λh=>?_,λh=>⟨⟨i+1,by omega⟩,congrArg _ (by push_cast; omega),by dsimp only; omega⟩⟩⟩
   have:=ha ((l.length:Int) - 1 - i - 1).toNat (by omega)
   rw [← e2] at this
   exact absurd (of_decide_eq_true h) (by omega)
structure K99a (s:List UInt8) where
 i:Nat
 hi:i≤s.length
def S99a (s:List UInt8)(p:K99a s):SL:=⟨[(0,.str s),(5,Ii s.length),(6,Ii p.i)],[]⟩
abbrev L99a (s:List UInt8):LI:=⟨K99a s,S99a s,λp=>s.length - p.i,λp q=>True⟩
theorem L99aS (s:List UInt8):(L99a s).S=S99a s:=rfl
theorem L99aR (s:List UInt8)(p q:K99a s):(L99a s).R p q=(True):=rfl
def I99 (s:List UInt8):Nat→LI:=λn=>L99a s
theorem I99_0 (s:List UInt8):I99 s 0=L99a s:=rfl
theorem walk99 (s:List UInt8)(h:okN s):evC Phi (I99 s) rc99 ⟨initS [.str s],initM false []⟩ (kRet rv99 (.bool true) false []):=by
 simp (maxSteps:=2000000) only [rc99,pk,un,rv99,Nat.reduceEqDiff,↓reduceIte,I99_0,L99aS,S99a,L99aR]
 obtain ⟨h1,h2,h3⟩:=h
 refine ⟨⟨0,Nat.zero_le _⟩,rfl,?_⟩
 rintro ⟨i,hi⟩
 dsimp only
 refine ⟨λhc=>?_,λhc=>?_⟩
 · have hc:=of_decide_eq_true hc
   obtain ⟨b1,b2⟩:=h1 i (by omega)
   have e:(decide (((s.getD i 0).toNat:Int) < 32) || decide (126 < ((s.getD i 0).toNat:Int))) =false:=by rw [decide_eq_false (by omega),decide_eq_false (by omega)]; rfl
   rw [e]
   refine ⟨⟨by omega,by omega⟩,λ_=>⟨by omega,by omega⟩,λh=>(by cases h),λ_=>⟨⟨i+1,by omega⟩,congrArg _ (wr_succ i (by omega)),by dsimp only; omega⟩⟩
 · rw [decide_eq_true (by omega),decide_eq_true (by omega)]
   rfl
structure K130a (fo m b k1 k2:Int)(sg:Bool)(l:List Pt) where
 i:Nat
 hi:i≤l.length
def S130a (fo m b k1 k2:Int)(sg:Bool)(l:List Pt)(p:K130a fo m b k1 k2 sg l):SL:=⟨[(1,.ptr 128 0),(16,.lst [U 0,Ii 0] (pts l)),(17,Ii l.length),(18,Ii p.i)],[(128,.cells [Ii fo,.bool sg,Ii m,Ii b,Ii k1,Ii k2,.lst [U 0,Ii 0] (pts l)])]⟩
abbrev L130a (fo m b k1 k2:Int)(sg:Bool)(l:List Pt):LI:=⟨K130a fo m b k1 k2 sg l,S130a fo m b k1 k2 sg l,λp=>l.length - p.i,λp q=>True⟩
theorem L130aS (fo m b k1 k2:Int)(sg:Bool)(l:List Pt):(L130a fo m b k1 k2 sg l).S=S130a fo m b k1 k2 sg l:=rfl
theorem L130aR (fo m b k1 k2:Int)(sg:Bool)(l:List Pt)(p q:K130a fo m b k1 k2 sg l):(L130a fo m b k1 k2 sg l).R p q=(True):=rfl
def I130 (fo m b k1 k2:Int)(sg:Bool)(l:List Pt):Nat→LI:=λn=>L130a fo m b k1 k2 sg l
theorem I130_0 (fo m b k1 k2:Int)(sg:Bool)(l:List Pt):I130 fo m b k1 k2 sg l 0=L130a fo m b k1 k2 sg l:=rfl
theorem walk130 (P143:Phi 143=some CClp)(P14:Phi 14=some CNum)(fo m b k1 k2:Int)(sg:Bool)(l:List Pt)(h:okT sg l):evC Phi (I130 fo m b k1 k2 sg l) rc130 ⟨initS [.agg [Ii fo,.bool sg,Ii m,Ii b,Ii k1,Ii k2,.lst [U 0,Ii 0] (pts l)]],initM false []⟩ (kRet rv130 (.bool true) false []):=by
 simp (maxSteps:=2000000) only [rc130,pk,un,rv130,Nat.reduceAdd,↓reduceIte,Nat.reduceEqDiff,pts_len,I130_0,L130aS,S130a,L130aR,getE_pt,Pt.cs,Nat.reduceLeDiff,Nat.reduceMul,P143,CClp,P14,CNum,Nat.reduceBEq]
 obtain ⟨h1,h2,h3,h4⟩:=h
 have e:(decide ((l.length:Int) < 2) || decide (12 < (l.length:Int))) =false:=by rw [decide_eq_false (by omega),decide_eq_false (by omega)]; rfl
 rw [e]
 intro _
 refine ⟨λh=>(by cases h),λ_ _=>⟨⟨0,Nat.zero_le _⟩,rfl,?_⟩⟩
 rintro ⟨i,hi⟩ hc
 dsimp only at hc ⊢
 have hc:=of_decide_eq_true hc
 obtain ⟨b1,b2⟩:=h3 i (by omega)
 have ev:clp (l.getD i pt0).v=(l.getD i pt0).v:=by unfold clp; omega
 have en:(!decide (clp (l.getD i pt0).v=(l.getD i pt0).v) || decide (0 < (i:Int)) && decide (num sg (l.getD i pt0).r≤num sg (l.getD (IntKind.i64.wrap ((i:Int) - 1)).toNat pt0).r)) =false:=by
  rw [decide_eq_true ev,Bool.not_true,Bool.false_or]
  by_cases h0:i=0
  · subst h0; rfl
  · rw [wr_in _ (by omega) (by omega)]
    have:=h4 (i - 1) (by omega)
    rw [show i - 1+1=i by omega] at this
    rw [show ((i:Int) - 1).toNat=i - 1 by omega,decide_eq_false (by omega:¬ num sg (l.getD i pt0).r≤num sg (l.getD (i - 1) pt0).r),Bool.and_false]
 rw [en]
 refine ⟨⟨by omega,by omega⟩,λ_=>⟨λh=>?_,λh=>(by cases h),λ_=>⟨⟨i+1,by omega⟩,congrArg _ (wr_succ i (by omega)),by dsimp only; omega⟩⟩⟩
 have h0:=of_decide_eq_true (Option.some.inj h.2)
 rw [wr_in _ (by omega) (by omega)]
 omega
inductive I4 where
 | b0 | b1 | b2 | b3
def I4.n:I4→Nat
 | .b0=>0
 | .b1=>1
 | .b2=>2
 | .b3=>3
theorem forall_I4 {P:I4→Prop}:(∀ i,P i)↔P .b0∧P .b1∧P .b2∧P .b3:=by
 constructor
 · intro h; exact ⟨h _,h _,h _,h _⟩
 · rintro ⟨h0,h1,h2,h3⟩ i; cases i<;>assumption
theorem I4n0:I4.b0.n=0:=rfl
theorem I4n1:I4.b1.n=1:=rfl
theorem I4n2:I4.b2.n=2:=rfl
theorem I4n3:I4.b3.n=3:=rfl
def I4.z:I4→Int
 | .b0=>0
 | .b1=>1
 | .b2=>2
 | .b3=>3
theorem I4z0:I4.b0.z=0:=rfl
theorem I4z1:I4.b1.z=1:=rfl
theorem I4z2:I4.b2.z=2:=rfl
theorem I4z3:I4.b3.z=3:=rfl
def okCv (c:Cv):Prop:=((1≤c.fo∧c.fo≤4)∧fac c.m=true∧fac c.b=true∧pow' c.k1=true∧pow' c.k2=true∧c.pt= .nil)∨(c.fo=5∧c.m=0∧c.b=0∧c.k1=0∧c.k2=0∧∃ l,c.pt= .lst [.int .u8 0,.int .i64 0] (pts l)∧okT c.sg l)
def CCv:Ctr:= .mk false λ_ xs=>match xs with
 | [.agg [.int .i64 fo,.bool sg,.int .i64 m,.int .i64 b,.int .i64 k1,.int .i64 k2,pt]]=>some (okCv ⟨fo,sg,m,b,k1,k2,pt⟩,.bool true,[])
 | _=>none
def bit (mk:Int)(i:Nat):Bool:=decide (bitsI .and .u8 (mk.fdiv (2 ^ i)) 1=1)
def nmI (s:Se)(l:List Int)(i:Nat):List Int:=if bit s.mk' i then l ++ [num s.sg (s.rw i)] else l
def nmL (s:Se):I4→List Int
 | .b0=>[]
 | .b1=>nmI s [] 2
 | .b2=>nmI s (nmI s [] 2) 1
 | .b3=>nmI s (nmI s (nmI s [] 2) 1) 0
def nmU (s:Se):I4→List Int
 | .b0=>[]
 | .b1=>nmI s [] 3
 | .b2=>nmI s (nmI s [] 3) 4
 | .b3=>nmI s (nmI s (nmI s [] 3) 4) 5
def lows (s:Se):List Int:=nmL s .b3
def ups (s:Se):List Int:=nmU s .b3
theorem nmI_len (s:Se)(l:List Int)(i:Nat):(nmI s l i).length≤l.length+1:=by
 unfold nmI
 split
 · rw [List.length_append]; exact Nat.le_refl _
 · omega
theorem nmL_len (s:Se)(x:I4):(nmL s x).length≤3:=by
 have h1:=nmI_len s [] 2
 have h2:=nmI_len s (nmI s [] 2) 1
 have h3:=nmI_len s (nmI s (nmI s [] 2) 1) 0
 have h0:([]:List Int).length=0:=rfl
 cases x<;>simp only [nmL]<;>omega
theorem nmU_len (s:Se)(x:I4):(nmU s x).length≤3:=by
 have h1:=nmI_len s [] 3
 have h2:=nmI_len s (nmI s [] 3) 4
 have h3:=nmI_len s (nmI s (nmI s [] 3) 4) 5
 have h0:([]:List Int).length=0:=rfl
 cases x<;>simp only [nmU]<;>omega
def dNum (s:Se)(es:List (List AV)):List Int:=if (decU es).getD 0 0=2 then lows s else ups s
def CNums:Ctr:= .mk false λ_ xs=>match xs with
 | [.lst z es,.ep zz [cs] 0 0]=>some (zz=cs∧(z= [.int .i64 0]∧(es=i64s [2,1,0]∨es=i64s [3,4,5]))∧cs=(seD cs).cs,.lst [.int .i64 0] (i64s (dNum (seD cs) es)),[])
 | _=>none
theorem walk118_1 (P128:Phi 128=some CFac)(P129:Phi 129=some CPow)(m b k1 k2:Int)(sg:Bool)(h2:fac m=true)(h3:fac b=true)(h4:pow' k1=true)(h5:pow' k2=true):evC Phi (noI) rc118 ⟨initS [.agg [Ii 1,.bool sg,Ii m,Ii b,Ii k1,Ii k2,.nil]],initM false []⟩ (kRet rv118 (.bool true) false []):=by
 simp (maxSteps:=2000000) only [rc118,pk,un,rv118,Nat.reduceAdd,↓reduceIte,Nat.reduceEqDiff,P128,CFac,h2,h3,P129,CPow,h4,h5,Int.reduceEq,Nat.reduceLeDiff]
theorem walk118_2 (P128:Phi 128=some CFac)(P129:Phi 129=some CPow)(m b k1 k2:Int)(sg:Bool)(h2:fac m=true)(h3:fac b=true)(h4:pow' k1=true)(h5:pow' k2=true):evC Phi (noI) rc118 ⟨initS [.agg [Ii 2,.bool sg,Ii m,Ii b,Ii k1,Ii k2,.nil]],initM false []⟩ (kRet rv118 (.bool true) false []):=by
 simp (maxSteps:=2000000) only [rc118,pk,un,rv118,Nat.reduceAdd,↓reduceIte,Nat.reduceEqDiff,Int.reduceEq,P128,CFac,h2,h3,P129,CPow,h4,h5,Nat.reduceLeDiff]
theorem walk118_3 (P128:Phi 128=some CFac)(P129:Phi 129=some CPow)(m b k1 k2:Int)(sg:Bool)(h2:fac m=true)(h3:fac b=true)(h4:pow' k1=true)(h5:pow' k2=true):evC Phi (noI) rc118 ⟨initS [.agg [Ii 3,.bool sg,Ii m,Ii b,Ii k1,Ii k2,.nil]],initM false []⟩ (kRet rv118 (.bool true) false []):=by
 simp (maxSteps:=2000000) only [rc118,pk,un,rv118,Nat.reduceAdd,↓reduceIte,Nat.reduceEqDiff,Int.reduceEq,P128,CFac,h2,h3,P129,CPow,h4,h5,Nat.reduceLeDiff]
theorem walk118_4 (P128:Phi 128=some CFac)(P129:Phi 129=some CPow)(m b k1 k2:Int)(sg:Bool)(h2:fac m=true)(h3:fac b=true)(h4:pow' k1=true)(h5:pow' k2=true):evC Phi (noI) rc118 ⟨initS [.agg [Ii 4,.bool sg,Ii m,Ii b,Ii k1,Ii k2,.nil]],initM false []⟩ (kRet rv118 (.bool true) false []):=by
 simp (maxSteps:=2000000) only [rc118,pk,un,rv118,Nat.reduceAdd,↓reduceIte,Nat.reduceEqDiff,Int.reduceEq,P128,CFac,h2,h3,P129,CPow,h4,h5,Nat.reduceLeDiff]
theorem walk118b (P130:Phi 130=some CTab)(sg:Bool)(l:List Pt)(h:okT sg l):evC Phi (noI) rc118 ⟨initS [.agg [Ii 5,.bool sg,Ii 0,Ii 0,Ii 0,Ii 0,.lst [U 0,Ii 0] (pts l)]],initM false []⟩ (kRet rv118 (.bool true) false []):=by
 simp (maxSteps:=2000000) only [rc118,pk,un,rv118,Nat.reduceAdd,↓reduceIte,Nat.reduceEqDiff,Int.reduceEq,Nat.reduceLeDiff,P130,CTab,decP_pts]
 exact h
def S131La (s:Se)(p:I4):SL:=⟨[(1,.ep s.cs [s.cs] 0 0),(4,.vw 3200 0 0 0),(7,.lst [Ii 0] (i64s [2,1,0])),(8,Ii 3),(9,Ii p.z)],[(3200,.buf 3 [Ii 0] (i64s (nmL s p)))]⟩
abbrev L131La (s:Se):LI:=⟨I4,S131La s,λp=>3 - p.n,λp q=>True⟩
theorem L131LaS (s:Se):(L131La s).S=S131La s:=rfl
theorem L131LaR (s:Se)(p q:I4):(L131La s).R p q=(True):=rfl
def I131L (s:Se):Nat→LI:=λn=>L131La s
theorem I131L_0 (s:Se):I131L s 0=L131La s:=rfl
theorem walk131L (P14:Phi 14=some CNum)(s:Se):evC Phi (I131L s) rc131 ⟨initS [.lst [Ii 0] (i64s [2,1,0]),.ep s.cs [s.cs] 0 0],initM false []⟩ (kRet rv131 (.lst [Ii 0] (i64s (nmL s .b3))) false []):=by
 simp (maxSteps:=2000000) only [rc131,Se.cs,pk,un,rv131,Nat.reduceEqDiff,↓reduceIte,Nat.reduceAdd,Nat.reduceLeDiff,I131L_0,L131LaS,S131La,Nat.reduceLT,L131LaR,Qf0,Nat.reduceMul,sel,Nat.reduceBEq,↓forall_I4,I4z0,Int.reduceLT,Int.reduceLE,Int.reduceToNat,P14,CNum,i64s_snoc,I4n0,I4z1,I4n1,I4z2,I4n2,I4z3,I4n3]
 refine ⟨.b0,⟨⟨rfl,rfl⟩,rfl⟩,⟨by decide,λh=>⟨by decide,by have:=nmL_len s .b0; omega,by have:=nmL_len s .b0; omega,.b1,⟨rfl,congrArg i64s (if_pos h).symm⟩,by decide⟩,λh=>⟨.b1,⟨rfl,congrArg i64s (if_neg (λhc=>absurd (h.symm.trans hc) (by decide))).symm⟩,by decide⟩⟩,⟨by decide,λh=>⟨by decide,by have:=nmL_len s .b1; omega,by have:=nmL_len s .b1; omega,.b2,⟨rfl,congrArg i64s (if_pos h).symm⟩,by decide⟩,λh=>⟨.b2,⟨rfl,congrArg i64s (if_neg (λhc=>absurd (h.symm.trans hc) (by decide))).symm⟩,by decide⟩⟩,⟨by decide,λh=>⟨by decide,by have:=nmL_len s .b2; omega,by have:=nmL_len s .b2; omega,.b3,⟨rfl,congrArg i64s (if_pos h).symm⟩,by decide⟩,λh=>⟨.b3,⟨rfl,congrArg i64s (if_neg (λhc=>absurd (h.symm.trans hc) (by decide))).symm⟩,by decide⟩⟩⟩
def S131Ua (s:Se)(p:I4):SL:=⟨[(1,.ep s.cs [s.cs] 0 0),(4,.vw 3200 0 0 0),(7,.lst [Ii 0] (i64s [3,4,5])),(8,Ii 3),(9,Ii p.z)],[(3200,.buf 3 [Ii 0] (i64s (nmU s p)))]⟩
abbrev L131Ua (s:Se):LI:=⟨I4,S131Ua s,λp=>3 - p.n,λp q=>True⟩
theorem L131UaS (s:Se):(L131Ua s).S=S131Ua s:=rfl
theorem L131UaR (s:Se)(p q:I4):(L131Ua s).R p q=(True):=rfl
def I131U (s:Se):Nat→LI:=λn=>L131Ua s
theorem I131U_0 (s:Se):I131U s 0=L131Ua s:=rfl
theorem walk131U (P14:Phi 14=some CNum)(s:Se):evC Phi (I131U s) rc131 ⟨initS [.lst [Ii 0] (i64s [3,4,5]),.ep s.cs [s.cs] 0 0],initM false []⟩ (kRet rv131 (.lst [Ii 0] (i64s (nmU s .b3))) false []):=by
 simp (maxSteps:=2000000) only [rc131,Se.cs,pk,un,rv131,Nat.reduceEqDiff,↓reduceIte,Nat.reduceAdd,Nat.reduceLeDiff,I131U_0,L131UaS,S131Ua,Nat.reduceLT,L131UaR,Qf0,Nat.reduceMul,sel,Nat.reduceBEq,↓forall_I4,I4z0,Int.reduceLT,Int.reduceLE,Int.reduceToNat,P14,CNum,i64s_snoc,I4n0,I4z1,I4n1,I4z2,I4n2,I4z3,I4n3]
 refine ⟨.b0,⟨⟨rfl,rfl⟩,rfl⟩,⟨by decide,λh=>⟨by decide,by have:=nmU_len s .b0; omega,by have:=nmU_len s .b0; omega,.b1,⟨rfl,congrArg i64s (if_pos h).symm⟩,by decide⟩,λh=>⟨.b1,⟨rfl,congrArg i64s (if_neg (λhc=>absurd (h.symm.trans hc) (by decide))).symm⟩,by decide⟩⟩,⟨by decide,λh=>⟨by decide,by have:=nmU_len s .b1; omega,by have:=nmU_len s .b1; omega,.b2,⟨rfl,congrArg i64s (if_pos h).symm⟩,by decide⟩,λh=>⟨.b2,⟨rfl,congrArg i64s (if_neg (λhc=>absurd (h.symm.trans hc) (by decide))).symm⟩,by decide⟩⟩,⟨by decide,λh=>⟨by decide,by have:=nmU_len s .b2; omega,by have:=nmU_len s .b2; omega,.b3,⟨rfl,congrArg i64s (if_pos h).symm⟩,by decide⟩,λh=>⟨.b3,⟨rfl,congrArg i64s (if_neg (λhc=>absurd (h.symm.trans hc) (by decide))).symm⟩,by decide⟩⟩⟩
def apK (s:Se):Bool:=(decide ((lows s).length=0) || decide ((ups s).length=0)) || decide ((lows s).getD ((lows s).length - 1) 0 < (ups s).getD 0 0)
def CLi:Ctr:= .mk false λ_ xs=>match xs with
 | [.agg cs]=>some (cs=(seD cs).cs∧NL (seD cs).pt∧asc (lows (seD cs))∧asc (ups (seD cs))∧apK (seD cs) =true,.bool true,[])
 | _=>none
def rzK (s:Se)(k:Nat):Bool:=decide (bitsI .and .u8 (s.mk'.fdiv (2 ^ k)) 1=0) && !decide (s.rw k=0)
structure OkS (s:Se):Prop where
 nm:okN s.nm
 sa:s.sa=1∨s.sa=3∨s.sa=5
 di:s.di=false
 cv:okCv s.cv
 mk0:0≤s.mk'
 mk1:s.mk' < 64
 st:s.st=0
 ad:bitsI .andNot .u16 (bitsI .or .u16 s.as' s.de) (IntKind.u16.wrap s.mk') =0
 rz:∀ k,k < 6→rzK s k=false
 lo:asc (lows s)
 up:asc (ups s)
 ap:apK s=true
 rb:∀ k,0≤s.rw k∧s.rw k≤255
 hl:0≤s.hl∧s.hl≤255
 hu:0≤s.hu∧s.hu≤255
theorem OkS.np {s:Se}(h:OkS s):NL s.pt:=by
 rcases h.cv with ⟨_,_,_,_,_,h⟩ | ⟨_,_,_,_,_,l,h,_⟩
 · have h:s.pt= .nil:=h
   rw [h]; exact .nil
 · have h:s.pt= .lst _ _ :=h
   rw [h]; exact .lst _ _
def CAn:Ctr:= .mk false λ_ xs=>match xs with
 | [.agg cs]=>some (cs=(seD cs).cs∧OkS (seD cs),.bool true,[])
 | _=>none
def wOf:AV→List Int
 | .lst _ es=>decU es
 | _=>[]
def WOk (w:AV):Prop:=w= .nil∨w= .lst [.int .u8 0] (u8s (wOf w))
theorem WOk.np {w:AV}(h:WOk w):NL w:=by
 rcases h with h | h<;>rw [h]
 · exact .nil
 · exact .lst _ _
theorem wOf_l (z:List AV)(L:List Int):wOf (.lst z (u8s L)) =L:=by show decU (u8s L) =L; rw [Qh0]
theorem wOf_n:wOf .nil= []:=rfl
theorem WOk.l (L:List Int):WOk (.lst [.int .u8 0] (u8s L)):= .inr (by rw [wOf_l])
theorem WOk.n:WOk .nil:= .inl rfl
structure okF (s:Se)(L:List Int)(m:Int):Prop where
 le:(L.length:Int)≤s.sa
 m0:0≤m
 m3:m≤3
 mz:m < 3∨L.length=0
def CFv:Ctr:= .mk false λ_ xs=>match xs with
 | [.agg cs,.agg [w,.int .i64 m]]=>some (cs=(seD cs).cs∧OkS (seD cs)∧WOk w∧okF (seD cs) (wOf w) m,.bool true,[])
 | _=>none
theorem walk119 (P131:Phi 131=some CNums)(P132:Phi 132=some CSrt)(s:Se)(hp:NL s.pt)(h1:asc (lows s))(h2:asc (ups s))(h3:apK s=true):evC Phi (noI) rc119 ⟨initS [.agg s.cs],initM false []⟩ (kRet rv119 (.bool true) false []):=by
 simp (maxSteps:=2000000) only [rc119,Se.cs,pk,un,rv119,Nat.reduceAdd,↓reduceIte,NL.k0 hp,Nat.reduceEqDiff,Nat.reduceLeDiff,NL.c0 hp,Nat.reduceMul,Nat.reduceLT,fs_131,P131,CNums,seD_lit,Int.reduceLE,Int.reduceToNat,P132,CSrt,Qg0,Nat.reduceBEq]
 have dL:dNum s [[AV.int IntKind.i64 2],[AV.int IntKind.i64 1],[AV.int IntKind.i64 0]] =lows s:=if_pos rfl
 have dU:dNum s [[AV.int IntKind.i64 3],[AV.int IntKind.i64 4],[AV.int IntKind.i64 5]] =ups s:=if_neg (by decide)
 rw [dL,dU]
 have lL:(lows s).length≤3:=nmL_len s .b3
 have lU:(ups s).length≤3:=nmU_len s .b3
 have hw:IntKind.i64.wrap (((lows s).length:Int) - 1) =((lows s).length:Int) - 1:=wr_in _ (by omega) (by omega)
 rw [hw]
 have e1:decide (((lows s).length:Int) =0) =decide ((lows s).length=0):=decide_eq_decide.2 (by omega)
 have e2:decide (((ups s).length:Int) =0) =decide ((ups s).length=0):=decide_eq_decide.2 (by omega)
 have e3:(((lows s).length:Int) - 1).toNat=(lows s).length - 1:=by omega
 rw [e1,e2,e3]
 have hs:∀ {a b:Bool},some (a || b) =some false→a=false∧b=false:=by
  intro a b h
  simpa using h
 refine ⟨.inl rfl,.inr rfl,λh=>?_,λh=>?_,λ_=>⟨⟨by omega,h1⟩,⟨by omega,h2⟩,congrArg AV.bool h3⟩⟩
 · have:=of_decide_eq_false (hs h).1
   omega
 · have:=of_decide_eq_false (hs h).2
   omega
def S101a (s:Se)(p:I7):SL:=⟨[(1,.ptr 128 0),(35,.agg [U s.r0,U s.r1,U s.r2,U s.r3,U s.r4,U s.r5]),(36,Ii p.z)],[(128,.cells s.cs)]⟩
abbrev L101a (s:Se):LI:=⟨I7,S101a s,λp=>6 - p.n,λp q=>True⟩
theorem L101aS (s:Se):(L101a s).S=S101a s:=rfl
theorem L101aR (s:Se)(p q:I7):(L101a s).R p q=(True):=rfl
def I101 (s:Se):Nat→LI:=λn=>L101a s
theorem I101_0 (s:Se):I101 s 0=L101a s:=rfl
theorem walk101 (P118:Phi 118=some CCv)(P119:Phi 119=some CLi)(s:Se)(h:OkS s):evC Phi (I101 s) rc101 ⟨initS [.agg s.cs],initM false []⟩ (kRet rv101 (.bool true) false []):=by
 simp (maxSteps:=2000000) only [rc101,Se.cs,pk,un,rv101,Nat.reduceAdd,↓reduceIte,NL.k0 h.np,Nat.reduceEqDiff,Nat.reduceLeDiff,P118,CCv,NL.la h.np,I101_0,L101aS,S101a,NL.qc h.np,NL.le h.np,L101aR,P119,CLi,seD_lit,↓forall_I7,I7z0,Int.reduceLT,Int.reduceToNat,Int.reduceLE,I7n0,I7z1,I7n1,I7z2,I7n2,I7z3,I7n3,I7z4,I7n4,I7z5,I7n5,I7z6]
 refine ⟨h.cv,λhc=>?_,λ_=>⟨.a0,rfl,⟨by decide,λhc=>absurd (hc.symm.trans (h.rz 0 (by decide))) (by decide),λ_=>⟨.a1,rfl,by decide⟩⟩,⟨by decide,λhc=>absurd (hc.symm.trans (h.rz 1 (by decide))) (by decide),λ_=>⟨.a2,rfl,by decide⟩⟩,⟨by decide,λhc=>absurd (hc.symm.trans (h.rz 2 (by decide))) (by decide),λ_=>⟨.a3,rfl,by decide⟩⟩,⟨by decide,λhc=>absurd (hc.symm.trans (h.rz 3 (by decide))) (by decide),λ_=>⟨.a4,rfl,by decide⟩⟩,⟨by decide,λhc=>absurd (hc.symm.trans (h.rz 4 (by decide))) (by decide),λ_=>⟨.a5,rfl,by decide⟩⟩,⟨by decide,λhc=>absurd (hc.symm.trans (h.rz 5 (by decide))) (by decide),λ_=>⟨.a6,rfl,by decide⟩⟩,h.np,h.lo,h.up,h.ap⟩⟩
 rw [decide_eq_false (show ¬ 64≤s.mk' by have:=h.mk1; omega),h.st,h.ad] at hc
 exact absurd hc (by decide)
theorem walk68 (P99:Phi 99=some CNmd)(P101:Phi 101=some CAn)(s:Se)(h:OkS s):evC Phi (noI) rc68 ⟨initS [.agg s.cs],initM false []⟩ (kRet rv68 (.bool true) false []):=by
 simp (maxSteps:=2000000) only [rc68,Se.cs,pk,un,rv68,Nat.reduceAdd,↓reduceIte,NL.k0 h.np,Nat.reduceEqDiff,P99,CNmd,Nat.reduceLeDiff,P101,CAn,NL.la h.np,seD_lit]
 refine ⟨h.nm,λhc=>?_,λ_=>⟨λhd=>absurd (hd.symm.trans h.di) (by decide),λ_=>h⟩⟩
 rcases h.sa with e | e | e<;>rw [e] at hc<;>exact absurd hc (by decide)
theorem walk29 (P68:Phi 68=some CAn)(s:Se)(h:OkS s):evC Phi (noI) rc29 ⟨initS [.agg s.cs],initM false []⟩ (kRet rv29 (.bool true) false []):=by
 simp (maxSteps:=2000000) only [rc29,Se.cs,pk,un,rv29,Nat.reduceAdd,↓reduceIte,NL.k0 h.np,Nat.reduceEqDiff,Nat.reduceLeDiff,P68,CAn,NL.la h.np,seD_lit]
 refine ⟨λ_=>h,?_⟩
 rw [h.di]
 rfl
theorem walk80n (P68:Phi 68=some CAn)(s:Se)(h:OkS s)(L:List Int)(m:Int)(hf:okF s L m)(hL:L= []):evC Phi (noI) rc80 ⟨initS [.agg s.cs,.agg [.nil,Ii m]],initM false []⟩ (kRet rv80 (.bool true) false []):=by
 simp (maxSteps:=2000000) only [rc80,Se.cs,pk,un,rv80,Nat.reduceAdd,↓reduceIte,Nat.reduceMul,NL.k0 h.np,Nat.reduceEqDiff,Nat.reduceLeDiff,P68,CAn,NL.la h.np,seD_lit]
 subst hL
 have e:(false || decide (s.sa < 0) || decide (m < 0) || decide (3 < m)) =false:=by
  rw [decide_eq_false (by rcases h.sa with e | e | e<;>omega),decide_eq_false (by have:=hf.m0; omega),decide_eq_false (by have:=hf.m3; omega)]
  rfl
 rw [e]
 exact ⟨h,λhc=>(by cases hc)⟩
theorem walk80l (P68:Phi 68=some CAn)(s:Se)(h:OkS s)(L:List Int)(m:Int)(hf:okF s L m):evC Phi (noI) rc80 ⟨initS [.agg s.cs,.agg [.lst [U 0] (u8s L),Ii m]],initM false []⟩ (kRet rv80 (.bool true) false []):=by
 simp (maxSteps:=2000000) only [rc80,Se.cs,pk,un,rv80,Nat.reduceAdd,↓reduceIte,Nat.reduceMul,NL.k0 h.np,Nat.reduceEqDiff,Nat.reduceLeDiff,P68,CAn,NL.la h.np,seD_lit]
 have e:(false || decide (s.sa < (L.length:Int)) || decide (m < 0) || decide (3 < m)) =false:=by
  rw [decide_eq_false (by have:=hf.le; omega),decide_eq_false (by have:=hf.m0; omega),decide_eq_false (by have:=hf.m3; omega)]
  rfl
 rw [e]
 refine ⟨h,λhc=>(by cases hc),λ_=>?_⟩
 rcases hf.mz with hz | hz
 · rw [decide_eq_true hz]; rfl
 · rw [hz,decide_eq_true (show ((0:Nat):Int) =0 from rfl),Bool.or_true]
def byD (s:Se)(i:Nat)(raw:Int):Int:=if i≤2 then W (num s.sg (s.rw i) - num s.sg raw) else W (num s.sg raw - num s.sg (s.rw i))
def byH (s:Se)(i:Nat):Int:=if i≤2 then W s.hl else W s.hu
def CBy:Ctr:= .mk false λ_ xs=>match xs with
 | [.agg cs,.int .i64 i,.int .u8 raw]=>some (cs=(seD cs).cs∧NL (seD cs).pt∧0≤i∧i < 6,.tup [.int .i64 (byD (seD cs) i.toNat raw),.int .i64 (byH (seD cs) i.toNat)],[])
 | _=>none
def bitI (s:Se)(i:Nat):Int:=bitsI .and .u8 (IntKind.u8.wrap (1 * 2 ^ i)) s.mk'
def nxB (s:Se)(st raw:Int)(i:Nat):Bool:=decide (0≤byD s i raw) || (!decide (bitsI .and .u8 st (bitI s i) =0) && decide (W (0 - byH s i)≤byD s i raw))
def nxO (s:Se)(st raw:Int):Nat→Int
 | 0=>0
 | k+1=>if nxB s st raw k then bitsI .or .u8 (nxO s st raw k) (bitI s k) else nxO s st raw k
theorem nxO_t {s:Se} {st raw:Int} {k:Nat}(h:nxB s st raw k=true):nxO s st raw (k+1) =bitsI .or .u8 (nxO s st raw k) (bitI s k):=if_pos h
theorem nxO_f {s:Se} {st raw:Int} {k:Nat}(h:nxB s st raw k=false):nxO s st raw (k+1) =nxO s st raw k:=if_neg (by rw [h]; decide)
def nxt (s:Se)(st raw:Int):Int:=nxO s st raw 6
def CNx:Ctr:= .mk false λ_ xs=>match xs with
 | [.agg cs,.int .u8 st,.int .u8 raw]=>some (cs=(seD cs).cs∧NL (seD cs).pt,.int .u8 (nxt (seD cs) st raw),[])
 | _=>none
def CRch:Ctr:= .mk false λ_ xs=>match xs with
 | [.agg cs,.int .u8 raw]=>some (cs=(seD cs).cs∧OkS (seD cs),.tup [.int .u8 (nxt (seD cs) 0 raw),.int .i64 0],[])
 | _=>none
structure Cg where
 i:Int
 a:Bool
def cg0:Cg:=⟨0,false⟩
def Cg.cs (c:Cg):List AV:=[.int .i64 c.i,.bool c.a]
def cgs (l:List Cg):List (List AV):=l.map Cg.cs
theorem cgs_len (l:List Cg):(cgs l).length=l.length:=by simp [cgs]
theorem getE_cg (l:List Cg)(i:Nat):getE [.int .i64 0,.bool false] (cgs l) i=(l.getD i cg0).cs:=getE_map _ Cg.cs cg0 rfl l i
theorem cgs_app (l:List Cg)(i:Int)(a:Bool):cgs l ++ [[.int .i64 i,.bool a]] =cgs (l ++ [⟨i,a⟩]):=by simp [cgs,Cg.cs]
def decG (es:List (List AV)):List Cg:=es.map λr=>match r with
 | [.int _ i,.bool a]=>⟨i,a⟩
 | _=>cg0
theorem decG_cgs (l:List Cg):decG (cgs l) =l:=by
 simp only [decG,cgs,List.map_map]
 exact List.map_id'' (λe=>rfl) l
def u8b (x:Int)(i:Nat):Bool:=decide (bitsI .and .u8 (x.fdiv (2 ^ i)) 1=1)
def chO (st to:Int):Nat→List Cg
 | 0=>[]
 | k+1=>if u8b (bitsI .xor .u8 st to) k then chO st to k ++ [⟨k,u8b to k⟩] else chO st to k
theorem chO_len (st to:Int):∀ k,(chO st to k).length≤k
 | 0=>Nat.le_refl _
 | k+1=>by
   have:=chO_len st to k
   unfold chO
   split
   · rw [List.length_append]; show _+1≤_; omega
   · omega
theorem chO_t {st to:Int} {k:Nat}(h:u8b (bitsI .xor .u8 st to) k=true):chO st to (k+1) =chO st to k ++ [⟨k,u8b to k⟩]:=if_pos h
theorem chO_f {st to:Int} {k:Nat}(h:u8b (bitsI .xor .u8 st to) k=false):chO st to (k+1) =chO st to k:=if_neg (by rw [h]; decide)
def CTs:Ctr:= .mk false λ_ xs=>match xs with
 | [.agg cs,.int .u8 st,.int .u8 raw]=>some (cs=(seD cs).cs∧OkS (seD cs)∧bitsI .andNot .u8 st (seD cs).mk'=0,.tup [.int .u8 (nxt (seD cs) st raw),.lst [.int .i64 0,.bool false] (cgs (chO st (nxt (seD cs) st raw) 6)),.int .i64 0],[])
 | _=>none
theorem walk69_0 (P14:Phi 14=some CNum)(s:Se)(hp:NL s.pt)(raw:Int):evC Phi (noI) rc69 ⟨initS [.agg s.cs,Ii 0,U raw],initM false []⟩ (kRet rv69 (.tup [Ii (byD s 0 raw),Ii (byH s 0)]) false []):=by
 simp (maxSteps:=2000000) only [rc69,Se.cs,pk,un,rv69,Nat.reduceAdd,↓reduceIte,Nat.reduceMul,NL.k0 hp,Nat.reduceEqDiff,P14,CNum,Int.reduceLE,sel,Int.reduceToNat,Nat.reduceLT,Nat.reduceBEq]
 exact ⟨by decide,rfl,rfl⟩
theorem walk69_1 (P14:Phi 14=some CNum)(s:Se)(hp:NL s.pt)(raw:Int):evC Phi (noI) rc69 ⟨initS [.agg s.cs,Ii 1,U raw],initM false []⟩ (kRet rv69 (.tup [Ii (byD s 1 raw),Ii (byH s 1)]) false []):=by
 simp (maxSteps:=2000000) only [rc69,Se.cs,pk,un,rv69,Nat.reduceAdd,↓reduceIte,Nat.reduceMul,NL.k0 hp,Nat.reduceEqDiff,P14,CNum,Int.reduceLE,sel,Int.reduceToNat,Nat.reduceLT,Nat.reduceBEq]
 exact ⟨by decide,rfl,rfl⟩
theorem walk69_2 (P14:Phi 14=some CNum)(s:Se)(hp:NL s.pt)(raw:Int):evC Phi (noI) rc69 ⟨initS [.agg s.cs,Ii 2,U raw],initM false []⟩ (kRet rv69 (.tup [Ii (byD s 2 raw),Ii (byH s 2)]) false []):=by
 simp (maxSteps:=2000000) only [rc69,Se.cs,pk,un,rv69,Nat.reduceAdd,↓reduceIte,Nat.reduceMul,NL.k0 hp,Nat.reduceEqDiff,P14,CNum,Int.reduceLE,sel,Int.reduceToNat,Nat.reduceLT,Nat.reduceBEq]
 exact ⟨by decide,rfl,rfl⟩
theorem walk69_3 (P14:Phi 14=some CNum)(s:Se)(hp:NL s.pt)(raw:Int):evC Phi (noI) rc69 ⟨initS [.agg s.cs,Ii 3,U raw],initM false []⟩ (kRet rv69 (.tup [Ii (byD s 3 raw),Ii (byH s 3)]) false []):=by
 simp (maxSteps:=2000000) only [rc69,Se.cs,pk,un,rv69,Nat.reduceAdd,↓reduceIte,Nat.reduceMul,NL.k0 hp,Nat.reduceEqDiff,P14,CNum,Int.reduceLE,sel,Int.reduceToNat,Nat.reduceLT,Nat.reduceBEq]
 exact ⟨by decide,rfl,rfl⟩
theorem walk69_4 (P14:Phi 14=some CNum)(s:Se)(hp:NL s.pt)(raw:Int):evC Phi (noI) rc69 ⟨initS [.agg s.cs,Ii 4,U raw],initM false []⟩ (kRet rv69 (.tup [Ii (byD s 4 raw),Ii (byH s 4)]) false []):=by
 simp (maxSteps:=2000000) only [rc69,Se.cs,pk,un,rv69,Nat.reduceAdd,↓reduceIte,Nat.reduceMul,NL.k0 hp,Nat.reduceEqDiff,P14,CNum,Int.reduceLE,sel,Int.reduceToNat,Nat.reduceLT,Nat.reduceBEq]
 exact ⟨by decide,rfl,rfl⟩
theorem walk69_5 (P14:Phi 14=some CNum)(s:Se)(hp:NL s.pt)(raw:Int):evC Phi (noI) rc69 ⟨initS [.agg s.cs,Ii 5,U raw],initM false []⟩ (kRet rv69 (.tup [Ii (byD s 5 raw),Ii (byH s 5)]) false []):=by
 simp (maxSteps:=2000000) only [rc69,Se.cs,pk,un,rv69,Nat.reduceAdd,↓reduceIte,Nat.reduceMul,NL.k0 hp,Nat.reduceEqDiff,P14,CNum,Int.reduceLE,sel,Int.reduceToNat,Nat.reduceLT,Nat.reduceBEq]
 exact ⟨by decide,rfl,rfl⟩
def S30a (s:Se)(st raw:Int)(p:I7):SL:=⟨[(1,U st),(2,U raw),(3,.ptr 256 0),(7,U (nxO s st raw p.n)),(12,Ii p.z)],[(256,.cells s.cs)]⟩
abbrev L30a (s:Se)(st raw:Int):LI:=⟨I7,S30a s st raw,λp=>6 - p.n,λp q=>True⟩
theorem L30aS (s:Se)(st raw:Int):(L30a s st raw).S=S30a s st raw:=rfl
theorem L30aR (s:Se)(st raw:Int)(p q:I7):(L30a s st raw).R p q=(True):=rfl
def I30 (s:Se)(st raw:Int):Nat→LI:=λn=>L30a s st raw
theorem I30_0 (s:Se)(st raw:Int):I30 s st raw 0=L30a s st raw:=rfl
theorem walk30 (P69:Phi 69=some CBy)(s:Se)(hp:NL s.pt)(st raw:Int):evC Phi (I30 s st raw) rc30 ⟨initS [.agg s.cs,U st,U raw],initM false []⟩ (kRet rv30 (U (nxt s st raw)) false []):=by
 simp (maxSteps:=2000000) only [rc30,Se.cs,pk,un,rv30,Nat.reduceAdd,↓reduceIte,Nat.reduceMul,NL.k0 hp,I30_0,L30aS,S30a,Nat.reduceEqDiff,NL.qc hp,NL.le hp,L30aR,Nat.reduceLeDiff,P69,CBy,NL.la hp,seD_lit,Nat.reduceBEq,↓forall_I7,I7z0,Int.reduceLT,Int.reduceLE,Int.reduceToNat,I7n0,I7z1,I7n1,I7z2,I7n2,I7z3,I7n3,I7z4,I7n4,I7z5,I7n5,I7z6,I7n6]
 exact ⟨.a0,⟨rfl,rfl⟩,⟨hp,λhc=>⟨.a1,⟨congrArg _ (nxO_t (k:=0) hc).symm,rfl⟩,by decide⟩,λhc=>⟨.a1,⟨congrArg _ (nxO_f (k:=0) hc).symm,rfl⟩,by decide⟩⟩,⟨hp,λhc=>⟨.a2,⟨congrArg _ (nxO_t (k:=1) hc).symm,rfl⟩,by decide⟩,λhc=>⟨.a2,⟨congrArg _ (nxO_f (k:=1) hc).symm,rfl⟩,by decide⟩⟩,⟨hp,λhc=>⟨.a3,⟨congrArg _ (nxO_t (k:=2) hc).symm,rfl⟩,by decide⟩,λhc=>⟨.a3,⟨congrArg _ (nxO_f (k:=2) hc).symm,rfl⟩,by decide⟩⟩,⟨hp,λhc=>⟨.a4,⟨congrArg _ (nxO_t (k:=3) hc).symm,rfl⟩,by decide⟩,λhc=>⟨.a4,⟨congrArg _ (nxO_f (k:=3) hc).symm,rfl⟩,by decide⟩⟩,⟨hp,λhc=>⟨.a5,⟨congrArg _ (nxO_t (k:=4) hc).symm,rfl⟩,by decide⟩,λhc=>⟨.a5,⟨congrArg _ (nxO_f (k:=4) hc).symm,rfl⟩,by decide⟩⟩,⟨hp,λhc=>⟨.a6,⟨congrArg _ (nxO_t (k:=5) hc).symm,rfl⟩,by decide⟩,λhc=>⟨.a6,⟨congrArg _ (nxO_f (k:=5) hc).symm,rfl⟩,by decide⟩⟩,rfl⟩
theorem walk10 (P29:Phi 29=some CAn)(P30:Phi 30=some CNx)(s:Se)(h:OkS s)(raw:Int):evC Phi (noI) rc10 ⟨initS [.agg s.cs,U raw],initM false []⟩ (kRet rv10 (.tup [U (nxt s 0 raw),Ii 0]) false []):=by
 simp (maxSteps:=2000000) only [rc10,Se.cs,pk,un,rv10,Nat.reduceAdd,↓reduceIte,Nat.reduceMul,NL.k0 h.np,Nat.reduceEqDiff,Nat.reduceLeDiff,P29,CAn,NL.la h.np,seD_lit,P30,CNx]
 exact ⟨h,h.np⟩
def S75a (s:Se)(st to:Int)(p:I7):SL:=⟨[(1,U st),(3,.ptr 256 0),(9,U to),(10,.vw 3200 0 0 0),(27,Ii p.z)],[(256,.cells s.cs),(3200,.buf 170 [Ii 0,.bool false] (cgs (chO st to p.n)))]⟩
abbrev L75a (s:Se)(st to:Int):LI:=⟨I7,S75a s st to,λp=>6 - p.n,λp q=>True⟩
theorem L75aS (s:Se)(st to:Int):(L75a s st to).S=S75a s st to:=rfl
theorem L75aR (s:Se)(st to:Int)(p q:I7):(L75a s st to).R p q=(True):=rfl
def I75 (s:Se)(st to:Int):Nat→LI:=λn=>L75a s st to
theorem I75_0 (s:Se)(st to:Int):I75 s st to 0=L75a s st to:=rfl
theorem walk75 (P29:Phi 29=some CAn)(P30:Phi 30=some CNx)(s:Se)(h:OkS s)(st raw:Int)(ha:bitsI .andNot .u8 st s.mk'=0):evC Phi (I75 s st (nxt s st raw)) rc75 ⟨initS [.agg s.cs,U st,U raw],initM false []⟩ (kRet rv75 (.tup [U (nxt s st raw),.lst [Ii 0,.bool false] (cgs (chO st (nxt s st raw) 6)),Ii 0]) false []):=by
 simp (maxSteps:=2000000) only [rc75,Se.cs,pk,un,rv75,Nat.reduceAdd,↓reduceIte,Nat.reduceMul,NL.k0 h.np,Nat.reduceEqDiff,Nat.reduceLeDiff,P29,CAn,NL.la h.np,seD_lit,P30,CNx,I75_0,L75aS,S75a,NL.qc h.np,Nat.reduceLT,NL.le h.np,L75aR,cgs_len,cgs_app,↓forall_I7,I7z0,Int.reduceLT,Int.reduceLE,Int.reduceToNat,I7n0,I7z1,I7n1,I7z2,I7n2,I7z3,I7n3,I7z4,I7n4,I7z5,I7n5,I7z6,I7n6]
 refine ⟨h,λhc=>?_,λ_=>⟨h.np,.a0,⟨rfl,rfl⟩,⟨λhc=>⟨by have:=chO_len st (nxt s st raw) 0; omega,by have:=chO_len st (nxt s st raw) 0; omega,.a1,⟨rfl,congrArg cgs (chO_t (k:=0) hc).symm⟩,by decide⟩,λhc=>⟨.a1,⟨rfl,congrArg cgs (chO_f (k:=0) hc).symm⟩,by decide⟩⟩,⟨λhc=>⟨by have:=chO_len st (nxt s st raw) 1; omega,by have:=chO_len st (nxt s st raw) 1; omega,.a2,⟨rfl,congrArg cgs (chO_t (k:=1) hc).symm⟩,by decide⟩,λhc=>⟨.a2,⟨rfl,congrArg cgs (chO_f (k:=1) hc).symm⟩,by decide⟩⟩,⟨λhc=>⟨by have:=chO_len st (nxt s st raw) 2; omega,by have:=chO_len st (nxt s st raw) 2; omega,.a3,⟨rfl,congrArg cgs (chO_t (k:=2) hc).symm⟩,by decide⟩,λhc=>⟨.a3,⟨rfl,congrArg cgs (chO_f (k:=2) hc).symm⟩,by decide⟩⟩,⟨λhc=>⟨by have:=chO_len st (nxt s st raw) 3; omega,by have:=chO_len st (nxt s st raw) 3; omega,.a4,⟨rfl,congrArg cgs (chO_t (k:=3) hc).symm⟩,by decide⟩,λhc=>⟨.a4,⟨rfl,congrArg cgs (chO_f (k:=3) hc).symm⟩,by decide⟩⟩,⟨λhc=>⟨by have:=chO_len st (nxt s st raw) 4; omega,by have:=chO_len st (nxt s st raw) 4; omega,.a5,⟨rfl,congrArg cgs (chO_t (k:=4) hc).symm⟩,by decide⟩,λhc=>⟨.a5,⟨rfl,congrArg cgs (chO_f (k:=4) hc).symm⟩,by decide⟩⟩,⟨λhc=>⟨by have:=chO_len st (nxt s st raw) 5; omega,by have:=chO_len st (nxt s st raw) 5; omega,.a6,⟨rfl,congrArg cgs (chO_t (k:=5) hc).symm⟩,by decide⟩,λhc=>⟨.a6,⟨rfl,congrArg cgs (chO_f (k:=5) hc).symm⟩,by decide⟩⟩⟩⟩
 rw [ha] at hc
 exact absurd hc (by decide)
def evT (s:Se)(i:Nat)(a:Bool)(raw:Int)(off:Int):Ev:=⟨0,0,32,s.ty,s.nu,1,!a,IntKind.u8.wrap (80+off),raw,s.rw i⟩
def offs (i:Nat):Int:=[0,2,4,7,9,11].getD i 0
def CThr:Ctr:= .mk false λ_ xs=>match xs with
 | [.int .u8 ty,.int .u8 nu,.int .i64 i,.bool a,.int .u8 raw,.int .u8 lim]=>some (0≤i∧i < 6,.tup [.agg (⟨0,0,32,ty,nu,1,!a,IntKind.u8.wrap (80+offs i.toNat),raw,lim⟩:Ev).cs,.int .i64 0],[])
 | _=>none
def mskB (s:Se)(c:Cg):Bool:=decide (bitsI .and .u16 ((if c.a then s.as' else s.de).fdiv (2 ^ (min c.i.toNat 16))) 1=0)
def evL (s:Se)(raw:Int):List Cg→List Ev
 | []=>[]
 | c::l=>if mskB s c then evL s raw l else evT s c.i.toNat c.a raw (offs c.i.toNat)::evL s raw l
theorem evL_app (s:Se)(raw:Int)(l:List Cg)(c:Cg):evL s raw (l ++ [c]) =if mskB s c then evL s raw l else evL s raw l ++ [evT s c.i.toNat c.a raw (offs c.i.toNat)]:=by
 induction l with
 | nil=>simp only [List.nil_append,evL]
 | cons x l ih=>
   simp only [List.cons_append,evL,ih]
   split
   · rfl
   · split
     · rfl
     · rfl
theorem evL_len (s:Se)(raw:Int)(l:List Cg):(evL s raw l).length≤l.length:=by
 induction l with
 | nil=>exact Nat.le_refl _
 | cons x l ih=>
   unfold evL
   split
   · rw [List.length_cons]; omega
   · rw [List.length_cons,List.length_cons]; omega
def okCg (l:List Cg):Prop:=l.length≤6∧∀ i,i < l.length→0≤(l.getD i cg0).i∧(l.getD i cg0).i < 6
def CEvs:Ctr:= .mk false λ_ xs=>match xs with
 | [.agg cs,.lst z es,.int .u8 raw]=>some (cs=(seD cs).cs∧NL (seD cs).pt∧(seD cs).di=false∧(z= [.int .i64 0,.bool false]∧es=cgs (decG es))∧okCg (decG es),.lst [.int .u16 0,.int .u32 0,.int .u16 0,.int .u8 0,.int .u8 0,.int .u8 0,.bool false,.int .u8 0,.int .u8 0,.int .u8 0] (evs (evL (seD cs) raw (decG es))),[])
 | [.agg cs,.nil,.int .u8 raw]=>some (cs=(seD cs).cs∧NL (seD cs).pt,.nil,[])
 | _=>none
theorem sel6 (j:Int):sel 6 j < 6:=by
 unfold sel
 split<;>omega
theorem raw_at (s:Se)(j:Int):([.int .u8 s.nu,.int .u8 s.ty,.int .u8 s.un,.str s.nm,.int .u8 s.ei,.int .u8 s.en,.bool s.di,.int .i64 s.fo,.bool s.sg,.int .i64 s.m,.int .i64 s.b,.int .i64 s.k1,.int .i64 s.k2,s.pt,.int .u8 s.mk',.int .u8 s.r0,.int .u8 s.r1,.int .u8 s.r2,.int .u8 s.r3,.int .u8 s.r4,.int .u8 s.r5,.int .u8 s.hl,.int .u8 s.hu,.int .u16 s.st,.int .u16 s.as',.int .u16 s.de,.bool s.ho,.int .i64 s.sa]:List AV)[15+sel 6 j]? =some (.int .u8 (s.rw (sel 6 j))):=by
 have h:=sel6 j
 generalize sel 6 j=k at h
 match k,h with
 | 0,_=>rfl
 | 1,_=>rfl
 | 2,_=>rfl
 | 3,_=>rfl
 | 4,_=>rfl
 | 5,_=>rfl
theorem walk77_0 (ty nu raw lim:Int)(a:Bool):evC Phi (noI) rc77 ⟨initS [U ty,U nu,Ii 0,.bool a,U raw,U lim],initM false []⟩ (kRet rv77 (.tup [.agg (⟨0,0,32,ty,nu,1,!a,IntKind.u8.wrap (80+offs 0),raw,lim⟩:Ev).cs,Ii 0]) false []):=by
 simp (maxSteps:=2000000) only [rc77,pk,un,rv77,Ev.cs,Nat.reduceMul,Nat.reduceAdd,Nat.reduceEqDiff,↓reduceIte,Int.reduceLT,Int.reduceLE,Nat.reduceLeDiff,glbA,sel,Int.reduceToNat,Nat.reduceLT,Qf0]
 rfl
theorem walk77_1 (ty nu raw lim:Int)(a:Bool):evC Phi (noI) rc77 ⟨initS [U ty,U nu,Ii 1,.bool a,U raw,U lim],initM false []⟩ (kRet rv77 (.tup [.agg (⟨0,0,32,ty,nu,1,!a,IntKind.u8.wrap (80+offs 1),raw,lim⟩:Ev).cs,Ii 0]) false []):=by
 simp (maxSteps:=2000000) only [rc77,pk,un,rv77,Ev.cs,Nat.reduceMul,Nat.reduceAdd,Nat.reduceEqDiff,↓reduceIte,Int.reduceLT,Int.reduceLE,Nat.reduceLeDiff,glbA,sel,Int.reduceToNat,Nat.reduceLT,Qf0]
 rfl
theorem walk77_2 (ty nu raw lim:Int)(a:Bool):evC Phi (noI) rc77 ⟨initS [U ty,U nu,Ii 2,.bool a,U raw,U lim],initM false []⟩ (kRet rv77 (.tup [.agg (⟨0,0,32,ty,nu,1,!a,IntKind.u8.wrap (80+offs 2),raw,lim⟩:Ev).cs,Ii 0]) false []):=by
 simp (maxSteps:=2000000) only [rc77,pk,un,rv77,Ev.cs,Nat.reduceMul,Nat.reduceAdd,Nat.reduceEqDiff,↓reduceIte,Int.reduceLT,Int.reduceLE,Nat.reduceLeDiff,glbA,sel,Int.reduceToNat,Nat.reduceLT,Qf0]
 rfl
theorem walk77_3 (ty nu raw lim:Int)(a:Bool):evC Phi (noI) rc77 ⟨initS [U ty,U nu,Ii 3,.bool a,U raw,U lim],initM false []⟩ (kRet rv77 (.tup [.agg (⟨0,0,32,ty,nu,1,!a,IntKind.u8.wrap (80+offs 3),raw,lim⟩:Ev).cs,Ii 0]) false []):=by
 simp (maxSteps:=2000000) only [rc77,pk,un,rv77,Ev.cs,Nat.reduceMul,Nat.reduceAdd,Nat.reduceEqDiff,↓reduceIte,Int.reduceLT,Int.reduceLE,Nat.reduceLeDiff,glbA,sel,Int.reduceToNat,Nat.reduceLT,Qf0]
 rfl
theorem walk77_4 (ty nu raw lim:Int)(a:Bool):evC Phi (noI) rc77 ⟨initS [U ty,U nu,Ii 4,.bool a,U raw,U lim],initM false []⟩ (kRet rv77 (.tup [.agg (⟨0,0,32,ty,nu,1,!a,IntKind.u8.wrap (80+offs 4),raw,lim⟩:Ev).cs,Ii 0]) false []):=by
 simp (maxSteps:=2000000) only [rc77,pk,un,rv77,Ev.cs,Nat.reduceMul,Nat.reduceAdd,Nat.reduceEqDiff,↓reduceIte,Int.reduceLT,Int.reduceLE,Nat.reduceLeDiff,glbA,sel,Int.reduceToNat,Nat.reduceLT,Qf0]
 rfl
theorem walk77_5 (ty nu raw lim:Int)(a:Bool):evC Phi (noI) rc77 ⟨initS [U ty,U nu,Ii 5,.bool a,U raw,U lim],initM false []⟩ (kRet rv77 (.tup [.agg (⟨0,0,32,ty,nu,1,!a,IntKind.u8.wrap (80+offs 5),raw,lim⟩:Ev).cs,Ii 0]) false []):=by
 simp (maxSteps:=2000000) only [rc77,pk,un,rv77,Ev.cs,Nat.reduceMul,Nat.reduceAdd,Nat.reduceEqDiff,↓reduceIte,Int.reduceLT,Int.reduceLE,Nat.reduceLeDiff,glbA,sel,Int.reduceToNat,Nat.reduceLT,Qf0]
 rfl
structure K41a (s:Se)(raw:Int)(l:List Cg) where
 i:Nat
 hi:i≤l.length
def S41a (s:Se)(raw:Int)(l:List Cg)(p:K41a s raw l):SL:=⟨[(2,U raw),(3,.ptr 256 0),(7,.vw 3200 0 0 0),(12,.lst [Ii 0,.bool false] (cgs l)),(13,Ii l.length),(14,Ii p.i)],[(256,.cells s.cs),(3200,.buf 82 zE (evs (evL s raw (l.take p.i))))]⟩
abbrev L41a (s:Se)(raw:Int)(l:List Cg):LI:=⟨K41a s raw l,S41a s raw l,λp=>l.length - p.i,λp q=>True⟩
theorem L41aS (s:Se)(raw:Int)(l:List Cg):(L41a s raw l).S=S41a s raw l:=rfl
theorem L41aR (s:Se)(raw:Int)(l:List Cg)(p q:K41a s raw l):(L41a s raw l).R p q=(True):=rfl
def I41 (s:Se)(raw:Int)(l:List Cg):Nat→LI:=λn=>L41a s raw l
theorem I41_0 (s:Se)(raw:Int)(l:List Cg):I41 s raw l 0=L41a s raw l:=rfl
theorem walk41l (P77:Phi 77=some CThr)(s:Se)(hp:NL s.pt)(hd:s.di=false)(raw:Int)(l:List Cg)(hl:okCg l):evC Phi (I41 s raw l) rc41 ⟨initS [.agg s.cs,.lst [Ii 0,.bool false] (cgs l),U raw],initM false []⟩ (kRet rv41 (.lst zE (evs (evL s raw l))) false []):=by
 simp (maxSteps:=2000000) only [rc41,Se.cs,pk,un,rv41,Nat.reduceAdd,↓reduceIte,Nat.reduceMul,NL.k0 hp,Nat.reduceEqDiff,cgs_len,I41_0,L41aS,S41a,NL.qc hp,Nat.reduceLeDiff,Nat.reduceLT,NL.le hp,L41aR,getE_cg,Cg.cs,raw_at,P77,CThr,Ev.cs,evs_len,Nat.reduceBEq]
 intro hll
 obtain ⟨l6,hi6⟩:=hl
 refine ⟨⟨0,Nat.zero_le _⟩,⟨rfl,rfl⟩,?_⟩
 rintro ⟨i,hi⟩
 dsimp only
 refine ⟨λhc=>?_,λhc=>?_⟩
 · have hc:=of_decide_eq_true hc
   obtain ⟨b1,b2⟩:=hi6 i (by omega)
   have hT:l.take (i+1) =l.take i ++ [l.getD i cg0]:=take_snoc l cg0 i (by omega)
   have hs:sel 6 (l.getD i cg0).i=(l.getD i cg0).i.toNat:=by unfold sel; rw [if_pos (by omega)]
   have hel:=evL_len s raw (l.take i)
   rw [List.length_take] at hel
   have key:∀ b:Bool,(l.getD i cg0).a=b→∀ x:Int,(x=if b then s.as' else s.de)→(decide (bitsI .and .u16 (x.fdiv (2 ^ min (l.getD i cg0).i.toNat 16)) 1=0) =true→evL s raw (l.take (i+1)) =evL s raw (l.take i))∧
    (decide (bitsI .and .u16 (x.fdiv (2 ^ min (l.getD i cg0).i.toNat 16)) 1=0) =false→evL s raw (l.take (i+1)) =evL s raw (l.take i) ++ [evT s (l.getD i cg0).i.toNat (l.getD i cg0).a raw (offs (l.getD i cg0).i.toNat)]):=by
    intro b hb x hx
    subst hx
    rw [hT,evL_app]
    have hm:mskB s (l.getD i cg0) =decide (bitsI .and .u16 ((if b then s.as' else s.de).fdiv (2 ^ min (l.getD i cg0).i.toNat 16)) 1=0):=by rw [mskB,hb]
    refine ⟨λh=>?_,λh=>?_⟩
    · rw [if_pos (hm.trans h)]
    · rw [if_neg (λhh=>absurd ((hm.trans h).symm.trans hh) (by decide))]
   have fin:∀ b:Bool,evL s raw (l.take (i+1)) =evL s raw (l.take i) ++ [evT s (l.getD i cg0).i.toNat (l.getD i cg0).a raw (offs (l.getD i cg0).i.toNat)]→
    evs (evL s raw (l.take i)) ++ [[AV.int .u16 0,.int .u32 0,.int .u16 32,.int .u8 s.ty,.int .u8 s.nu,.int .u8 1,.bool !(l.getD i cg0).a,.int .u8 (IntKind.u8.wrap (80+offs (l.getD i cg0).i.toNat)),.int .u8 raw,.int .u8 (s.rw (sel 6 (l.getD i cg0).i))]] =evs (evL s raw (l.take (i+1))):=by
    intro _ h
    rw [h,hs]
    simp only [evs,List.map_append]
    rfl
   refine ⟨⟨by omega,hc⟩,λ_=>⟨λha=>?_,λha=>?_⟩⟩
   · obtain ⟨k1,k2⟩:=key true ha s.as' rfl
     refine ⟨b1,λh=>⟨⟨i+1,by omega⟩,⟨congrArg _ (wr_succ i (by omega)),congrArg evs (k1 h).symm⟩,by dsimp only; omega⟩,λh=>⟨λhh=>absurd (hh.symm.trans hd) (by decide),λ_=>⟨⟨b1,b2⟩,⟨b1,b2⟩,by omega,by omega,⟨i+1,by omega⟩,⟨congrArg _ (wr_succ i (by omega)),fin true (k2 h)⟩,by dsimp only; omega⟩⟩⟩
   · obtain ⟨k1,k2⟩:=key false ha s.de rfl
     refine ⟨b1,λh=>⟨⟨i+1,by omega⟩,⟨congrArg _ (wr_succ i (by omega)),congrArg evs (k1 h).symm⟩,by dsimp only; omega⟩,λh=>⟨λhh=>absurd (hh.symm.trans hd) (by decide),λ_=>⟨⟨b1,b2⟩,⟨b1,b2⟩,by omega,by omega,⟨i+1,by omega⟩,⟨congrArg _ (wr_succ i (by omega)),fin false (k2 h)⟩,by dsimp only; omega⟩⟩⟩
 · have hc:=of_decide_eq_false hc
   rw [List.take_of_length_le (by omega)]
def S41na (s:Se)(raw:Int)(p:Unit):SL:=⟨[(2,U raw),(3,.ptr 256 0),(7,.nil),(12,.nil),(13,Ii 0),(14,Ii 0)],[(256,.cells s.cs)]⟩
abbrev L41na (s:Se)(raw:Int):LI:=⟨Unit,S41na s raw,λp=>0,λp q=>True⟩
theorem L41naS (s:Se)(raw:Int):(L41na s raw).S=S41na s raw:=rfl
theorem L41naR (s:Se)(raw:Int)(p q:Unit):(L41na s raw).R p q=(True):=rfl
def I41n (s:Se)(raw:Int):Nat→LI:=λn=>L41na s raw
theorem I41n_0 (s:Se)(raw:Int):I41n s raw 0=L41na s raw:=rfl
theorem walk41n (P77:Phi 77=some CThr)(s:Se)(hp:NL s.pt)(raw:Int):evC Phi (I41n s raw) rc41 ⟨initS [.agg s.cs,.nil,U raw],initM false []⟩ (kRet rv41 .nil false []):=by
 simp (maxSteps:=2000000) only [rc41,Se.cs,pk,un,rv41,Nat.reduceAdd,↓reduceIte,Nat.reduceMul,NL.k0 hp,Nat.reduceEqDiff,I41n_0,L41naS,S41na,NL.qc hp,NL.le hp,L41naR,Int.reduceLT,exists_const]
theorem s14:Sound Tryz.prog 14 CNum:=Qc0 (by kernel_rfl) Qb0 Tryz.func14 rfl rc14_ok rv14_ok (by
 intro xs q r cs' h hq
 split at h
 · rename_i sg r
   cases h
   exact ⟨noI,rfl,Nat.le_of_ble_eq_true rfl,walk14  sg r⟩
 · cases h
 )
theorem s128:Sound Tryz.prog 128 CFac:=Qc0 (by kernel_rfl) Qb0 Tryz.func128 rfl rc128_ok rv128_ok (by
 intro xs q r cs' h hq
 split at h
 · rename_i n
   cases h
   exact ⟨noI,rfl,Nat.le_of_ble_eq_true rfl,walk128  n⟩
 · cases h
 )
theorem s129:Sound Tryz.prog 129 CPow:=Qc0 (by kernel_rfl) Qb0 Tryz.func129 rfl rc129_ok rv129_ok (by
 intro xs q r cs' h hq
 split at h
 · rename_i n
   cases h
   exact ⟨noI,rfl,Nat.le_of_ble_eq_true rfl,walk129  n⟩
 · cases h
 )
theorem s143:Sound Tryz.prog 143 CClp:=Qc0 (by kernel_rfl) Qb0 Tryz.func143 rfl rc143_ok rv143_ok (by
 intro xs q r cs' h hq
 split at h
 · rename_i n
   cases h
   exact ⟨noI,rfl,Nat.le_of_ble_eq_true rfl,walk143  n⟩
 · cases h
 )
theorem s109:Sound Tryz.prog 109 CNan:=Qc0 (by kernel_rfl) Qb0 Tryz.func109 rfl rc109_ok rv109_ok (by
 intro xs q r cs' h hq
 split at h
 · rename_i n
   cases h
   exact ⟨noI,rfl,Nat.le_of_ble_eq_true rfl,walk109  n⟩
 · cases h
 )
theorem s144:Sound Tryz.prog 144 CLss:=Qc0 (by kernel_rfl) (Qa0 s109 Qb0) Tryz.func144 rfl rc144_ok rv144_ok (by
 intro xs q r cs' h hq
 split at h
 · rename_i a b
   cases h
   exact ⟨noI,rfl,Nat.le_of_ble_eq_true rfl,walk144 rfl a b⟩
 · cases h
 )
theorem s84:Sound Tryz.prog 84 CCmp:=Qc0 (by kernel_rfl) (Qa0 s109 Qb0) Tryz.func84 rfl rc84_ok rv84_ok (by
 intro xs q r cs' h hq
 split at h
 · rename_i a b
   cases h
   exact ⟨noI,rfl,Nat.le_of_ble_eq_true rfl,walk84 rfl a b⟩
 · cases h
 )
theorem s132:Sound Tryz.prog 132 CSrt:=Qc0 (by kernel_rfl) (Qa0 s144 Qb0) Tryz.func132 rfl rc132_ok rv132_ok (by
 intro xs q r cs' h hq
 split at h
 · rename_i z es
   cases h
   obtain ⟨⟨rfl,he⟩,hn,ha⟩:=hq
   obtain ⟨L,rfl⟩:∃ L,es=i64s L:=⟨_,he⟩
   simp only [Qg0,Qx0] at *
   exact ⟨I132 L,rfl,Nat.le_of_ble_eq_true rfl,walk132 rfl L hn ha⟩
 · cases h
 )
theorem s99:Sound Tryz.prog 99 CNmd:=Qc0 (by kernel_rfl) Qb0 Tryz.func99 rfl rc99_ok rv99_ok (by
 intro xs q r cs' h hq
 split at h
 · rename_i s
   cases h
   exact ⟨I99 s,rfl,Nat.le_of_ble_eq_true rfl,walk99  s hq⟩
 · cases h
 )
theorem s130:Sound Tryz.prog 130 CTab:=Qc0 (by kernel_rfl) (Qa0 s143 (Qa0 s14 Qb0)) Tryz.func130 rfl rc130_ok rv130_ok (by
 intro xs q r cs' h hq
 split at h
 · rename_i fo sg m b k1 k2 z es
   cases h
   obtain ⟨⟨rfl,he⟩,ho⟩:=hq
   obtain ⟨l,rfl⟩:∃ l,es=pts l:=⟨_,he⟩
   simp only [decP_pts] at *
   exact ⟨I130 fo m b k1 k2 sg l,rfl,Nat.le_of_ble_eq_true rfl,walk130 rfl rfl fo m b k1 k2 sg l ho⟩
 · cases h
 )
theorem s118:Sound Tryz.prog 118 CCv:=Qc0 (by kernel_rfl) (Qa0 s128 (Qa0 s129 (Qa0 s130 Qb0))) Tryz.func118 rfl rc118_ok rv118_ok (by
 intro xs q r cs' h hq
 split at h
 · rename_i fo sg m b k1 k2 pt
   cases h
   rcases hq with ⟨hf,h2,h3,h4,h5,hp⟩ | ⟨hf,h1,h2,h3,h4,l,hp,ht⟩
   · have hf:1≤fo∧fo≤4:=hf
     have hp:pt= .nil:=hp
     subst hp
     obtain rfl | rfl | rfl | rfl:fo=1∨fo=2∨fo=3∨fo=4:=by omega
     · exact ⟨noI,rfl,Nat.le_of_ble_eq_true rfl,walk118_1 rfl rfl m b k1 k2 sg h2 h3 h4 h5⟩
     · exact ⟨noI,rfl,Nat.le_of_ble_eq_true rfl,walk118_2 rfl rfl m b k1 k2 sg h2 h3 h4 h5⟩
     · exact ⟨noI,rfl,Nat.le_of_ble_eq_true rfl,walk118_3 rfl rfl m b k1 k2 sg h2 h3 h4 h5⟩
     · exact ⟨noI,rfl,Nat.le_of_ble_eq_true rfl,walk118_4 rfl rfl m b k1 k2 sg h2 h3 h4 h5⟩
   · have hf:fo=5:=hf
     have h1:m=0:=h1
     have h2:b=0:=h2
     have h3:k1=0:=h3
     have h4:k2=0:=h4
     have hp:pt= .lst _ (pts l):=hp
     subst hf h1 h2 h3 h4 hp
     exact ⟨noI,rfl,Nat.le_of_ble_eq_true rfl,walk118b rfl sg l ht⟩
 · cases h
 )
theorem s131:Sound Tryz.prog 131 CNums:=Qc0 (by kernel_rfl) (Qa0 s14 Qb0) Tryz.func131 rfl rc131_ok rv131_ok (by
 intro xs q r cs' h hq
 split at h
 · rename_i z es y cs
   cases h
   obtain ⟨rfl,⟨rfl,he⟩,hc⟩:=hq
   generalize seD y=s at *
   subst hc
   rcases he with rfl | rfl
   · have e:dNum s (i64s [2,1,0]) =nmL s .b3:=if_pos rfl
     rw [e]
     exact ⟨I131L s,rfl,Nat.le_of_ble_eq_true rfl,walk131L rfl s⟩
   · have e:dNum s (i64s [3,4,5]) =nmU s .b3:=if_neg (by decide)
     rw [e]
     exact ⟨I131U s,rfl,Nat.le_of_ble_eq_true rfl,walk131U rfl s⟩
 · cases h
 )
theorem s119:Sound Tryz.prog 119 CLi:=Qc0 (by kernel_rfl) (Qa0 s131 (Qa0 s132 Qb0)) Tryz.func119 rfl rc119_ok rv119_ok (by
 intro xs q r cs' h hq
 split at h
 · rename_i cs
   cases h
   obtain ⟨he,hp,h1,h2,h3⟩:=hq
   generalize seD cs=s at *
   subst he
   exact ⟨noI,rfl,Nat.le_of_ble_eq_true rfl,walk119 rfl rfl s hp h1 h2 h3⟩
 · cases h
 )
theorem s101:Sound Tryz.prog 101 CAn:=Qc0 (by kernel_rfl) (Qa0 s118 (Qa0 s119 Qb0)) Tryz.func101 rfl rc101_ok rv101_ok (by
 intro xs q r cs' h hq
 split at h
 · rename_i cs
   cases h
   obtain ⟨he,h⟩:=hq
   generalize seD cs=s at *
   subst he
   exact ⟨I101 s,rfl,Nat.le_of_ble_eq_true rfl,walk101 rfl rfl s h⟩
 · cases h
 )
theorem s68:Sound Tryz.prog 68 CAn:=Qc0 (by kernel_rfl) (Qa0 s99 (Qa0 s101 Qb0)) Tryz.func68 rfl rc68_ok rv68_ok (by
 intro xs q r cs' h hq
 split at h
 · rename_i cs
   cases h
   obtain ⟨he,h⟩:=hq
   generalize seD cs=s at *
   subst he
   exact ⟨noI,rfl,Nat.le_of_ble_eq_true rfl,walk68 rfl rfl s h⟩
 · cases h
 )
theorem s29:Sound Tryz.prog 29 CAn:=Qc0 (by kernel_rfl) (Qa0 s68 Qb0) Tryz.func29 rfl rc29_ok rv29_ok (by
 intro xs q r cs' h hq
 split at h
 · rename_i cs
   cases h
   obtain ⟨he,h⟩:=hq
   generalize seD cs=s at *
   subst he
   exact ⟨noI,rfl,Nat.le_of_ble_eq_true rfl,walk29 rfl s h⟩
 · cases h
 )
theorem Qi0 {P:Unit→Prop}:(∀ i,P i)↔P ():=⟨λh=>h (),λh _=>h⟩
theorem Qj0 {P:Unit→Prop}:(∃ i,P i)↔P ():=⟨λ⟨_,h⟩=>h,λh=>⟨(),h⟩⟩
def CIxA:Ctr:= .gr Unit [] false λbs xs=>match xs with
 | [.nil,.ap 32 0 0 0]=>(match bs with
   | [(32,.clo 121 z es 0 0)]=>some (True,λ_=>(True,.int .i64 (-1),[(32,.clo 121 z es 0 0)]))
   | _=>none)
 | _=>none
def CPar:Ctr:= .mk false λ_ xs=>match xs with
 | [.nil,.agg [.int .u8 _,.int .u8 _]]=>some (True,.tup [.agg [.int .u8 0,.int .u8 0],.bool false],[])
 | _=>none
def CNilN:Ctr:= .mk false λ_ xs=>match xs with
 | [.nil,.agg [.int .u8 _,.int .u8 _]]=>some (True,.nil,[])
 | _=>none
def CNilM:Ctr:= .mk false λ_ xs=>match xs with
 | [.nil,.agg [.int .u8 _,.int .u8 _]]=>some (True,.int .i64 (-1),[])
 | _=>none
def CNilF:Ctr:= .mk false λ_ xs=>match xs with
 | [.nil,.agg [.int .u8 _,.int .u8 _]]=>some (True,.bool false,[])
 | _=>none
def CAbs:Ctr:= .mk false λ_ xs=>match xs with
 | [.agg [.int .u8 _,.int .u8 _],.ep [.nil] [[.nil]] 0 0]=>some (True,.bool false,[])
 | _=>none
def CIxE:Ctr:= .gr Unit [] true λbs xs=>match xs with
 | [.lst z [[.int .u8 a,.int .u8 b]],.ap 32 0 0 0]=>(match bs with
   | [(32,.clo 105 [.nil] [[.nil]] 0 0)]=>some (z= [.int .u8 0,.int .u8 0],λ_=>(True,.int .i64 (-1),[(32,.clo 105 [.nil] [[.nil]] 0 0)]))
   | _=>none)
 | _=>none
def CCtE:Ctr:= .gr Unit [] true λbs xs=>match xs with
 | [.lst z [[.int .u8 a,.int .u8 b]],.ap 32 0 0 0]=>(match bs with
   | [(32,.clo 105 [.nil] [[.nil]] 0 0)]=>some (z= [.int .u8 0,.int .u8 0],λ_=>(True,.bool false,[(32,.clo 105 [.nil] [[.nil]] 0 0)]))
   | _=>none)
 | _=>none
def CPre:Ctr:= .mk false λ_ xs=>match xs with
 | [.nil,.nil,.agg [.int .u8 _,.int .u8 _]]=>some (True,.bool true,[])
 | _=>none
def CPrs:Ctr:= .mk false λ_ xs=>match xs with
 | [.nil,.nil,.agg [.int .u8 _,.int .u8 _]]=>some (True,.tup [.bool true,.int .i64 0],[])
 | _=>none
def CChk:Ctr:= .mk false λ_ xs=>match xs with
 | [.nil]=>some (True,.int .i64 0,[])
 | _=>none
def CClA:Ctr:= .mk false λ_ xs=>match xs with
 | [.nil]=>some (True,.nil,[])
 | _=>none
theorem barl72_14:(barOK [
 ⟨(some 7),.mov (.t 0),none,[]⟩,
 ⟨(some 8),.load 2 true (.t 5),none,[]⟩,
 ⟨(some 9),.call 71 [(.t 7),(.t 8)],none,[1,0]⟩,
 ⟨(some 10),.load 2 true (.t 5),none,[]⟩,
 ⟨(some 11),.bslice 1 [.int .u8 0,.int .u8 0] [(0,(.t 10))],none,[3]⟩,
 ⟨(some 12),.appD 27 2 [.int .u8 0,.int .u8 0] (.t 9) (.t 11),none,[3,0,1,4,2]⟩,
 ⟨(some 13),.mkclo 105 (.t 4),none,[]⟩] ⟨(some 14),.call 104 [(.t 12),(.t 13)],none,[2,4,1,0,3,6,5]⟩ [
 ⟨(some 15),.not (.t 14),none,[5,6,3,0,1,4,2,7]⟩,
 ⟨(some 6),.mov (.t 15),none,[6,5,4,3,2,1,0,7,8]⟩] =true) =True:=bar72_14
def S120a (z:List AV)(es:List (List AV))(p:Unit):SL:=⟨[(0,.nil),(1,.ap 32 0 0 0),(7,Ii 0),(8,Ii 0)],[(32,.clo 121 z es 0 0)]⟩
abbrev L120a (z:List AV)(es:List (List AV)):LI:=⟨Unit,S120a z es,λp=>0,λp q=>True⟩
theorem L120aS (z:List AV)(es:List (List AV)):(L120a z es).S=S120a z es:=rfl
theorem L120aR (z:List AV)(es:List (List AV))(p q:Unit):(L120a z es).R p q=(True):=rfl
def I120 (z:List AV)(es:List (List AV)):Nat→LI:=λn=>L120a z es
theorem I120_0 (z:List AV)(es:List (List AV)):I120 z es 0=L120a z es:=rfl
theorem walk120 (z:List AV)(es:List (List AV)):evC Phi (I120 z es) rc120 ⟨initS [.nil,.ap 32 0 0 0],lookM [(32,.clo 121 z es 0 0)]⟩ (kRetG rv120 (λ(_ :Unit)=>(True,.int .i64 (-1),[(32,.clo 121 z es 0 0)]))):=by
 simp (maxSteps:=2000000) only [rc120,rv120,pk,un,Nat.reduceEqDiff,↓reduceIte,I120_0,L120aS,S120a,L120aR,Int.reduceLT,↓Qj0,exists_const]
theorem walk103 (P120:Phi 120=some CIxA)(a b:Int):evC Phi (noI) rc103 ⟨initS [.nil,.agg [U a,U b]],initM false []⟩ (kRet rv103 (.tup [.agg [U 0,U 0],.bool false]) false []):=by
 simp (maxSteps:=2000000) only [rc103,pk,un,rv103,Nat.reduceAdd,↓reduceIte,Nat.reduceMul,Nat.reduceEqDiff,Nat.reduceLeDiff,P120,CIxA,Nat.reduceLT,↓Qi0,Option.isSome_some,Int.reduceLT]
def S102a (a b:Int)(p:Unit):SL:=⟨[(0,.nil),(3,.ptr 256 0),(7,Ii 0),(8,Ii 0)],[(256,.cells [U a,U b])]⟩
abbrev L102a (a b:Int):LI:=⟨Unit,S102a a b,λp=>0,λp q=>True⟩
theorem L102aS (a b:Int):(L102a a b).S=S102a a b:=rfl
theorem L102aR (a b:Int)(p q:Unit):(L102a a b).R p q=(True):=rfl
def I102 (a b:Int):Nat→LI:=λn=>L102a a b
theorem I102_0 (a b:Int):I102 a b 0=L102a a b:=rfl
theorem walk102 (a b:Int):evC Phi (I102 a b) rc102 ⟨initS [.nil,.agg [U a,U b]],initM false []⟩ (kRet rv102 (Ii (-1)) false []):=by
 simp (maxSteps:=2000000) only [rc102,pk,un,rv102,Nat.reduceAdd,↓reduceIte,Nat.reduceMul,Nat.reduceEqDiff,I102_0,L102aS,S102a,L102aR,Int.reduceLT,Nat.reduceLeDiff,exists_const]
theorem walk70 (P102:Phi 102=some CNilM)(a b:Int):evC Phi (noI) rc70 ⟨initS [.nil,.agg [U a,U b]],initM false []⟩ (kRet rv70 (.bool false) false []):=by
 simp (maxSteps:=2000000) only [rc70,pk,un,rv70,Nat.reduceAdd,↓reduceIte,Nat.reduceMul,Nat.reduceEqDiff,Nat.reduceLeDiff,P102,CNilM,Int.reduceLE]
def S71a (a b:Int)(p:Unit):SL:=⟨[(0,.nil),(3,.ptr 256 0),(5,.nil)],[(256,.cells [U a,U b])]⟩
abbrev L71a (a b:Int):LI:=⟨Unit,S71a a b,λp=>0,λp q=>True⟩
theorem L71aS (a b:Int):(L71a a b).S=S71a a b:=rfl
theorem L71aR (a b:Int)(p q:Unit):(L71a a b).R p q=(True):=rfl
def I71 (a b:Int):Nat→LI:=λn=>L71a a b
theorem I71_0 (a b:Int):I71 a b 0=L71a a b:=rfl
theorem walk71 (P103:Phi 103=some CPar)(P70:Phi 70=some CNilF)(a b:Int):evC Phi (I71 a b) rc71 ⟨initS [.nil,.agg [U a,U b]],initM false []⟩ (kRet rv71 .nil false []):=by
 simp (maxSteps:=2000000) only [rc71,pk,un,rv71,Nat.reduceAdd,↓reduceIte,Nat.reduceMul,I71_0,L71aS,S71a,Nat.reduceEqDiff,L71aR,Nat.reduceLeDiff,P103,CPar,P70,CNilF,Nat.reduceLT,exists_const,Nat.reduceBEq]
theorem walk105 (P70:Phi 70=some CNilF)(a b:Int):evC Phi (noI) rc105 ⟨initS [.agg [U a,U b],.ep [.nil] [[.nil]] 0 0],initM false []⟩ (kRet rv105 (.bool false) false []):=by
 simp (maxSteps:=2000000) only [rc105,pk,un,rv105,Nat.reduceAdd,↓reduceIte,Nat.reduceMul,Nat.reduceEqDiff,Qf0,Nat.reduceLeDiff,P70,CNilF]
def S122a (a b:Int)(p:Bool):SL:=⟨[(0,.lst [U 0,U 0] [[U a,U b]]),(1,.ap 32 0 0 0),(7,Ii 1),(8,Ii (cond p 1 0))],[(32,.clo 105 [.nil] [[.nil]] 0 0)]⟩
abbrev L122a (a b:Int):LI:=⟨Bool,S122a a b,λp=>cond p 0 1,λp q=>True⟩
theorem L122aS (a b:Int):(L122a a b).S=S122a a b:=rfl
theorem L122aR (a b:Int)(p q:Bool):(L122a a b).R p q=(True):=rfl
def I122 (a b:Int):Nat→LI:=λn=>L122a a b
theorem I122_0 (a b:Int):I122 a b 0=L122a a b:=rfl
theorem walk122 (P105:Phi 105=some CAbs)(a b:Int):evC Phi (I122 a b) rc122 ⟨initS [.lst [.int .u8 0,.int .u8 0] [[.int .u8 a,.int .u8 b]],.ap 32 0 0 0],lookM [(32,.clo 105 [.nil] [[.nil]] 0 0)]⟩ (kRetG rv122 (λ(_ :Unit)=>(True,.int .i64 (-1),[(32,.clo 105 [.nil] [[.nil]] 0 0)]))):=by
 simp (maxSteps:=2000000) only [rc122,rv122,pk,un,Nat.reduceEqDiff,↓reduceIte,Nat.reduceLeDiff,I122_0,L122aS,S122a,L122aR,Nat.reduceAdd,↓Qj0,↓Bool.forall_bool,Bool.cond_false,Int.reduceLT,Int.reduceLE,Int.reduceToNat,Qf0,fs_105,P105,CAbs,↓Bool.exists_bool,Nat.reduceLT,Bool.cond_true]
 exact .inl ⟨rfl,by decide,.inr rfl⟩
theorem walk104 (P122:Phi 122=some CIxE)(a b:Int):evC Phi (noI) rc104 ⟨initS [.lst [.int .u8 0,.int .u8 0] [[.int .u8 a,.int .u8 b]],.ap 32 0 0 0],lookM [(32,.clo 105 [.nil] [[.nil]] 0 0)]⟩ (kRetG rv104 (λ(_ :Unit)=>(True,.bool false,[(32,.clo 105 [.nil] [[.nil]] 0 0)]))):=by
 simp (maxSteps:=2000000) only [rc104,rv104,pk,un,Nat.reduceEqDiff,↓reduceIte,P122,CIxE,Nat.reduceLT,↓Qi0,Option.isSome_some,Nat.reduceLeDiff,Int.reduceLE,↓Qj0]
theorem walk72 (P71:Phi 71=some CNilN)(P104:Phi 104=some CCtE)(a b:Int):evC Phi (noI) rc72 ⟨initS [.nil,.nil,.agg [U a,U b]],initM false []⟩ (kRet rv72 (.bool true) false []):=by
 simp (maxSteps:=2000000) only [rc72,bA72_14,bO72_14,bB72_14,pk,un,rv72,Nat.reduceMul,Nat.reduceAdd,Nat.reduceEqDiff,↓reduceIte,Nat.reduceLeDiff,barl72_14,P71,CNilN,Nat.reduceLT,P104,CCtE,↓Qi0,Option.isSome_some,Nat.reduceBEq]
def S32a (p:Unit):SL:=⟨[(0,.nil),(12,.nil),(13,Ii 0),(14,Ii 0)],[]⟩
abbrev L32a:LI:=⟨Unit,S32a,λp=>0,λp q=>True⟩
theorem L32aS:(L32a).S=S32a:=rfl
theorem L32aR (p q:Unit):(L32a).R p q=(True):=rfl
def S32b (p:Unit):SL:=⟨[(0,.nil),(26,.nil),(27,Ii 0),(28,Ii 0)],[]⟩
abbrev L32b:LI:=⟨Unit,S32b,λp=>0,λp q=>True⟩
theorem L32bS:(L32b).S=S32b:=rfl
theorem L32bR (p q:Unit):(L32b).R p q=(True):=rfl
def I32:Nat→LI:=λn=>if n=0 then L32a else L32b
theorem I32_0:I32 0=L32a:=rfl
theorem I32_1:I32 1=L32b:=rfl
theorem walk32  :evC Phi (I32) rc32 ⟨initS [.nil],initM false []⟩ (kRet rv32 (Ii 0) false []):=by
 simp (maxSteps:=2000000) only [rc32,pk,un,rv32,Nat.reduceEqDiff,↓reduceIte,Int.reduceLT,Nat.reduceMul,Nat.reduceAdd,I32_0,L32aS,S32a,L32aR,I32_1,L32bS,S32b,L32bR,exists_const]
theorem walk37 (P32:Phi 32=some CChk)(P72:Phi 72=some CPre)(a b:Int):evC Phi (noI) rc37 ⟨initS [.nil,.nil,.agg [U a,U b]],initM false []⟩ (kRet rv37 (.tup [.bool true,Ii 0]) false []):=by
 simp (maxSteps:=2000000) only [rc37,pk,un,rv37,Nat.reduceAdd,↓reduceIte,Nat.reduceMul,Nat.reduceEqDiff,P32,CChk,Nat.reduceLeDiff,P72,CPre]
theorem walk34  :evC Phi (noI) rc34 ⟨initS [.nil],initM false []⟩ (kRet rv34 .nil false []):=by
 simp (maxSteps:=2000000) only [rc34,pk,un,rv34,Nat.reduceEqDiff,↓reduceIte,Nat.reduceAdd,Nat.reduceMul,Nat.reduceLeDiff]
theorem s120:Sound Tryz.prog 120 CIxA:=soundG (by kernel_rfl) Qb0 Tryz.func120 rfl rc120_ok rv120_ok (by
 intro bs xs q g h hq
 split at h
 · split at h
   · rename_i z es
     cases h
     exact ⟨I120 z es,λ_ _=>rfl,Nat.le_of_ble_eq_true rfl,walk120  z es⟩
   · cases h
 · cases h
 )
theorem s103:Sound Tryz.prog 103 CPar:=Qc0 (by kernel_rfl) (Qa0 s120 Qb0) Tryz.func103 rfl rc103_ok rv103_ok (by
 intro xs q r cs' h hq
 split at h
 · rename_i a b
   cases h
   exact ⟨noI,rfl,Nat.le_of_ble_eq_true rfl,walk103 rfl a b⟩
 · cases h
 )
theorem s102:Sound Tryz.prog 102 CNilM:=Qc0 (by kernel_rfl) Qb0 Tryz.func102 rfl rc102_ok rv102_ok (by
 intro xs q r cs' h hq
 split at h
 · rename_i a b
   cases h
   exact ⟨I102 a b,rfl,Nat.le_of_ble_eq_true rfl,walk102  a b⟩
 · cases h
 )
theorem s70:Sound Tryz.prog 70 CNilF:=Qc0 (by kernel_rfl) (Qa0 s102 Qb0) Tryz.func70 rfl rc70_ok rv70_ok (by
 intro xs q r cs' h hq
 split at h
 · rename_i a b
   cases h
   exact ⟨noI,rfl,Nat.le_of_ble_eq_true rfl,walk70 rfl a b⟩
 · cases h
 )
theorem s71:Sound Tryz.prog 71 CNilN:=Qc0 (by kernel_rfl) (Qa0 s103 (Qa0 s70 Qb0)) Tryz.func71 rfl rc71_ok rv71_ok (by
 intro xs q r cs' h hq
 split at h
 · rename_i a b
   cases h
   exact ⟨I71 a b,rfl,Nat.le_of_ble_eq_true rfl,walk71 rfl rfl a b⟩
 · cases h
 )
theorem s105:Sound Tryz.prog 105 CAbs:=Qc0 (by kernel_rfl) (Qa0 s70 Qb0) Tryz.func105 rfl rc105_ok rv105_ok (by
 intro xs q r cs' h hq
 split at h
 · rename_i a b
   cases h
   exact ⟨noI,rfl,Nat.le_of_ble_eq_true rfl,walk105 rfl a b⟩
 · cases h
 )
theorem s122:Sound Tryz.prog 122 CIxE:=soundG (by kernel_rfl) (Qa0 s105 Qb0) Tryz.func122 rfl rc122_ok rv122_ok (by
 intro bs xs q g h hq
 split at h
 · split at h
   · rename_i z a b _
     cases h
     obtain rfl:=hq
     exact ⟨I122 a b,λ_ _=>rfl,Nat.le_of_ble_eq_true rfl,walk122 rfl a b⟩
   · cases h
 · cases h
 )
theorem s104:Sound Tryz.prog 104 CCtE:=soundG (by kernel_rfl) (Qa0 s122 Qb0) Tryz.func104 rfl rc104_ok rv104_ok (by
 intro bs xs q g h hq
 split at h
 · split at h
   · rename_i z a b _
     cases h
     obtain rfl:=hq
     exact ⟨noI,λ_ _=>rfl,Nat.le_of_ble_eq_true rfl,walk104 rfl a b⟩
   · cases h
 · cases h
 )
theorem s72:Sound Tryz.prog 72 CPre:=Qc0 (by kernel_rfl) (Qa0 s71 (Qa0 s104 Qb0)) Tryz.func72 rfl rc72_ok rv72_ok (by
 intro xs q r cs' h hq
 split at h
 · rename_i a b
   cases h
   exact ⟨noI,rfl,Nat.le_of_ble_eq_true rfl,walk72 rfl rfl a b⟩
 · cases h
 )
theorem s32:Sound Tryz.prog 32 CChk:=Qc0 (by kernel_rfl) Qb0 Tryz.func32 rfl rc32_ok rv32_ok (by
 intro xs q r cs' h hq
 split at h
 · cases h
   exact ⟨I32,rfl,Nat.le_of_ble_eq_true rfl,walk32  ⟩
 · cases h
 )
theorem s37:Sound Tryz.prog 37 CPrs:=Qc0 (by kernel_rfl) (Qa0 s32 (Qa0 s72 Qb0)) Tryz.func37 rfl rc37_ok rv37_ok (by
 intro xs q r cs' h hq
 split at h
 · rename_i a b
   cases h
   exact ⟨noI,rfl,Nat.le_of_ble_eq_true rfl,walk37 rfl rfl a b⟩
 · cases h
 )
theorem s34:Sound Tryz.prog 34 CClA:=Qc0 (by kernel_rfl) Qb0 Tryz.func34 rfl rc34_ok rv34_ok (by
 intro xs q r cs' h hq
 split at h
 · cases h
   exact ⟨noI,rfl,Nat.le_of_ble_eq_true rfl,walk34  ⟩
 · cases h
 )
end Go.Proofs.YthgmdkokaflgjaaGreatDoor
namespace Go.Proofs.YthgmdkokaflgjaaGreatDoor
open Go Go.RowKit Go.Ev Go.Shelf Go.Maps
def upto (f:Nat→Int)(k:Nat):List Int:=(List.range k).map f
theorem upto_succ (f:Nat→Int)(k:Nat):upto f (k+1) =upto f k ++ [f k]:=by simp [upto,List.range_succ]
theorem upto_length (f:Nat→Int)(k:Nat):(upto f k).length=k:=by simp [upto]
theorem upto_all (zs:List Int):upto (λj=>zs[j]?.getD 0) zs.length=zs:=by
 apply List.ext_getElem
 · simp [upto]
 · intro i h1 h2
   simp [upto,h2]
set_option maxRecDepth 100000 in
set_option maxHeartbeats 2000000 in
theorem vals_in (F:Fence)(n:Nat)(h108:F.fn 108)(hro:F.round=none)(hn:1≤n)(l Bs ob n₀ b off len cap:Nat)(zs:List Int)(hreach:len * 8≤140737488351232)(hb:b < n₀)(J:List Int→World→Prop)
 (hY:∀ pre x W,J pre W→pre.length < len→YieldAt F (n - 1) Tryz.prog l #[.int .u8 x] W λe W'=>e= .returned (.bool true)∧J (pre ++ [x]) W'∧Below n₀ W W')
 (W:World) (hBs:W.cell? ⟨Bs,ob,none⟩ =some (.slice (some ⟨b,off,none⟩) len cap)) (hc:∀ j,j < len→W.cell? ⟨b,off+j,none⟩ =some (.int .u8 (zs[j]?.getD 0))) (h0:J [] W):
 CallsIn F n Tryz.prog 108 #[.func (.yield l) #[] #[],.pointer (some ⟨Bs,ob,none⟩)] W λe W'=>(∃ v,e= .returned v)∧J (upto (λj=>zs[j]?.getD 0) len) W':=by
 refine callsIn_of_wp Tryz.func108 rfl h108 ?_ hro
 simp only [Tryz.ntmps108,List.size_toArray,List.length_cons,List.length_nil,Nat.reduceAdd,Nat.reduceSub,Array.replicate_succ,Array.replicate_zero,List.push_toArray,List.append_toArray,List.nil_append,List.cons_append]
 gi_wp2
 gi_loopw [7] (λi wr=>∃ k:Nat,k≤len∧i= .int .i64 k∧J (upto (λj=>zs[j]?.getD 0) k) wr∧Below n₀ W wr)
  (λi _=>len - (intOf i).toNat)
 case atStart=>exact ⟨0,Nat.zero_le _,rfl,h0,Below.refl _ _⟩
 case round=>
  obtain ⟨k,hk,rfl,hJs,hnx⟩:=hrel
  have hcx:k < len→wr.cell? ⟨b,off+k,none⟩ =some (.int .u8 (zs[k]?.getD 0)):=λh=>(hnx.cell (p:=⟨b,off+k,none⟩) hb).trans (hc k h)
  by_cases hlt:k < len
  · obtain ⟨fn,tmps,assign,body,hy,hR⟩:=hY _ (zs[k]?.getD 0) wr hJs (by rw [upto_length]; exact hlt)
    have hcx':=hcx hlt
    gi_wp2
    refine hR.mono ?_
    rintro e W3 ⟨rfl,hJ3,hk3⟩
    gi_wp2
    go_roundw
    case rel=>exact ⟨k+1,by omega,by simp,by rw [upto_succ]; exact hJ3,hnx.trans hk3⟩
    case measure=>simp [intOf]; omega
  · obtain rfl:k=len:=by omega
    gi_wp2
    go_end0
    exact ⟨⟨_,rfl⟩,hJs⟩
def qC:Code→Code×Code
 | .rangeFunc _ _ a b=>(a,b)
 | _=>(.skip,.skip)
def qB:Code→Code
 | .block _ b=>b
 | _=> .skip
def q1:Code→Code
 | .seq a _=>a
 | _=> .skip
def q2:Code→Code
 | .seq _ b=>b
 | _=> .skip
noncomputable def apCode:Code:=qB (q2 (q1 (q2 (Tryz.f123.body.getD .skip))))
noncomputable def apAssign:Code:=(qC apCode).1
noncomputable def apBody:Code:=(qC apCode).2
abbrev encB (x:Int):Value:= .int .u8 x
noncomputable def apRec (fn:FuncId)(sv:Value)(Bs D:Nat)(st:LoopState)(pend:Option Code):Loop:=
 {state:=st,pending:=pend,fn,tmps:=#[.slice none 0 0,sv,.pointer (some ⟨Bs,0,none⟩),undef,.slice none 0 0,undef,sv,undef,undef,undef,undef,undef,undef],params:=#[7],assign:=apAssign,body:=apBody,defers:=D}
structure ApAt (w0:World)(fn:FuncId)(sv:Value)(Bs l D:Nat)(ss:List Int)(W:World):Prop where
 box:∃ v,W.heap[Bs]? =some (.cells #[v] 23 (0,0))∧W.ownsRow w0.heap.size 5 1 v ss.length (ss.map encB)∧(v= .slice none 0 0↔ss= [])
 L:W.heap[l]? =some (.loop (apRec fn sv Bs D .ready none))
 K:W.heap[D]? =some (.deferred (some []))
 below:Below w0.heap.size w0 W
theorem Qr0 (W:World)(l:Nat)(o:Obj):W.grownBy (W.putObj l o) (some l):=
 ⟨rfl,rfl,rfl,by simp,λk _ hk=>World.putObj_heap_other (λe=>hk (by rw [e]))⟩
theorem sq_grownBy_setCell0 (W:World)(b:Nat)(v:Value):W.grownBy (W.setCell ⟨b,0,none⟩ v) (some b):=
 ⟨rfl,rfl,rfl,(KeepsWalks.setCell W _ v).size,λk _ hk=>Below.heap_setCell _ _ _ k (λe=>hk (by rw [e]))⟩
theorem Zb0 {W:World} {base:Nat} {e:TypeId} {size:Nat} {v:Value} {k:Nat} {xs:List Value}(h:W.ownsRow base e size v k xs) {j:Nat} {o:Obj}(hj:W.heap[j]? =some o)(hno:∀ cur,o≠ .cells cur e (0,0)):
 v.ownBlock=none∨v.ownBlock≠some j:=by
 rcases h.2 with ⟨rfl,_⟩ | ⟨g,cap,cur,rfl,_,hgb,_⟩
 · exact .inl rfl
 · refine .inr λe'=>?_
   have:g=j:=by simpa [Value.ownBlock] using e'
   subst this; rw [hgb] at hj; cases hj; exact hno cur rfl
theorem sq_cell_of_box {W:World} {B:Nat} {v:Value} {t:TypeId}(h:W.heap[B]? =some (.cells #[v] t (0,0))):W.cell? ⟨B,0,none⟩ =some v∧W.frozen? ⟨B,0,none⟩ =false:=by
 constructor<;>simp [World.cell?,World.frozen?,h]
theorem sq_heap_setCell_box {W:World} {B:Nat} {v:Value} {t:TypeId}(v':Value)(h:W.heap[B]? =some (.cells #[v] t (0,0))):(W.setCell ⟨B,0,none⟩ v').heap[B]? =some (.cells #[v'] t (0,0)):=by
 obtain ⟨hlt,hk⟩:=Array.getElem?_eq_some_iff.1 h
 show (W.heap.modify B _)[B]? =_
 rw [Array.getElem?_eq_getElem (by rw [Array.size_modify]; exact hlt),Array.getElem_modify_self,hk]
 rfl
theorem sq_ownsRow_not_walk {W:World} {base:Nat} {e:TypeId} {size:Nat} {v:Value} {k:Nat} {xs:List Value}(h:W.ownsRow base e size v k xs):∀ (j:Nat)(o:Obj),v.ownBlock=some j→W.heap[j]? =some o→o.isWalk=false:=by
 intro j o hj ho
 rcases h.2 with ⟨rfl,_⟩ | ⟨g,cap,cur,rfl,_,hgb,_⟩
 · simp [Value.ownBlock] at hj
 · have:g=j:=by simpa [Value.ownBlock] using hj
   subst this; rw [hgb] at ho; cases ho; rfl
theorem sq_info5:(Tryz.prog.info? 5).map (λi=>(i.zero,i.size,i.bytes)) =some (some (.int .u8 0),1,1):=by kernel_rfl
set_option maxRecDepth 100000 in
set_option maxHeartbeats 2000000 in
theorem apYield (F:Fence)(m:Nat)(w0:World)(fn:FuncId)(hfn:F.fn fn)(sv:Value)(Bs l D:Nat)(hBl:Bs≠l)(hDl:D≠l)(hDB:D≠Bs)(h0B:w0.heap.size≤Bs)(h0l:w0.heap.size≤l)
 (N:Nat) (hN:N≤maxLen) (hNb:N * 1≤140737488355328) (ss:List Int) (x:Int) (W:World) (h:ApAt w0 fn sv Bs l D ss W) (hlen:ss.length < N):
 YieldAt F m Tryz.prog l #[encB x] W λe W'=>e= .returned (.bool true)∧ApAt w0 fn sv Bs l D (ss ++ [x]) W'∧KeepsWalks W W':=by
 obtain ⟨i0,hi,hz0,hz1,hz2⟩:=info_parts sq_info5
 obtain ⟨v,hv,hrow,_⟩:=h.box
 refine ⟨fn,#[.slice none 0 0,sv,.pointer (some ⟨Bs,0,none⟩),undef,.slice none 0 0,undef,sv,encB x,undef,undef,undef,undef,undef],apAssign,apBody,by simpa [apRec] using run_yield (P:=Tryz.prog) (args:=#[encB x]) h.L rfl,roundIn_of_wpIn hfn ?_⟩
 have hl:l < W.heap.size:=(Array.getElem?_eq_some_iff.1 h.L).1
 have hbr:=run_beginRound (P:=Tryz.prog) h.L rfl
 obtain ⟨W2,hW2⟩:∃ W2,W.putObj l (.loop {apRec fn sv Bs D .ready none with state:= .busy}) =W2:=⟨_,rfl⟩
 rw [hW2] at hbr
 have hg2:W.grownBy W2 (some l):=by rw [← hW2]; exact Qr0 _ _ _
 have hk2:KeepsWalks W W2:=by rw [← hW2]; exact KeepsWalks.putObj _ h.L rfl
 have hv2:W2.heap[Bs]? =some (.cells #[v] 23 (0,0)):=by rw [← hW2]; exact (World.putObj_heap_other hBl).trans hv
 have hK2:W2.heap[D]? =some (.deferred (some [])):=by rw [← hW2]; exact (World.putObj_heap_other hDl).trans h.K
 have hL2:W2.heap[l]? =some (.loop {apRec fn sv Bs D .ready none with state:= .busy}):=by rw [← hW2]; exact World.putObj_heap_same hl
 have hrow2:W2.ownsRow w0.heap.size 5 1 v ss.length (ss.map encB):=hrow.kept hg2 (Zb0 hrow h.L (λcur e=>by cases e))
 have hb2:Below w0.heap.size w0 W2:=h.below.grown hg2 h.below.size (λk e=>by cases e; exact h0l)
 obtain ⟨hc2,hf2⟩:=sq_cell_of_box hv2
 have hBlt:Bs < W2.heap.size:=(Array.getElem?_eq_some_iff.1 hv2).1
 have hl2:l < W2.heap.size:=(Array.getElem?_eq_some_iff.1 hL2).1
 have hDlt:D < W2.heap.size:=(Array.getElem?_eq_some_iff.1 hK2).1
 have ne_of:∀ {j:Nat} {o:Obj},W2.heap[j]? =some o→(∀ cur,o≠ .cells cur 5 (0,0))→some j≠v.ownBlock:=λhj hno=>by
  rcases Zb0 hrow2 hj hno with e | e
  · rw [e]; simp
  · exact λe'=>e e'.symm
 clear hW2
 simp only [apAssign,apCode,qC,qB,q1,q2,Tryz.f123,Option.getD_some]
 gi_wp2_with (rw [Oper.semAt_eq _ _ _ (λc h=>by cases h)]; go_simp; try go_bits)
 simp only [apBody,apCode,qC,qB,q1,q2,Tryz.f123,Option.getD_some]
 gi_wp2_with (first
  | (gi_at_builtin; refine wpListIn_append_own _ rfl _ _ 23 rfl w0.heap.size 5 i0 (.int .u8 0) 1 1 Tryz.underlying23 hi hz0 hz1 hz2 rfl (by decide) _ _ _ rfl (hrow2.alloc _) ⟨W2.heap.size,0,none⟩ 1 1 [encB x] rfl rfl (cell_one_new _ _ _) (by simp [Value.oneCell',encB]) (by omega) (by omega) (by have:=hb2.size; simp; omega) ?_; intro v' w3 hown' hg3 hnil3
     have hv3:w3.heap[Bs]? =some (.cells #[v] 23 (0,0)):=(hg3.block Bs (by simp; omega) (ne_of hv2 (λcur e=>by cases e))).trans ((Below.heap_alloc _ _ Bs hBlt).trans hv2)
     obtain ⟨hc3,hf3⟩:=sq_cell_of_box hv3
     obtain ⟨g',cap',cur',rfl,hbase',hgb',hr1,hr2,hr3,hr4⟩:∃ g' cap' cur',v'= .slice (some ⟨g',0,none⟩) (ss.length+1) cap'∧w0.heap.size≤g'∧w3.heap[g']? =some (.cells cur' 5 (0,0))∧ss.length+1≤cap'∧cap'≤maxLen∧cur'.size=cap' * 1∧cur'.toList.take ((ss.length+1) * 1) =ss.map encB ++ [encB x]:=by
      rcases hown'.2 with ⟨_,h0⟩ | h'
      · exact absurd h0 (by omega)
      · exact h'
     simp only [Act.put,List.setIfInBounds_toArray,List.set_cons_succ,List.set_cons_zero])
  | (rw [Oper.semAt_eq _ _ _ (λc h=>by cases h)]; go_simp; try go_bits))
 have hg3':(W2.alloc (.cells #[encB x] 5)).grownBy w3 v.ownBlock:=hg3
 have hL3:w3.heap[l]? =some (.loop {apRec fn sv Bs D .ready none with state:= .busy}):=(hg3'.block l (by simp; omega) (ne_of hL2 (λcur e=>by cases e))).trans ((Below.heap_alloc _ _ l hl2).trans hL2)
 have hK3:w3.heap[D]? =some (.deferred (some [])):=(hg3'.block D (by simp; omega) (ne_of hK2 (λcur e=>by cases e))).trans ((Below.heap_alloc _ _ D hDlt).trans hK2)
 obtain ⟨w4,hw4⟩:∃ w4,w3.setCell ⟨Bs,0,none⟩ (.slice (some ⟨g',0,none⟩) (ss.length+1) cap') =w4:=⟨_,rfl⟩
 rw [hw4]
 have hg4:w3.grownBy w4 (some Bs):=by rw [← hw4]; exact sq_grownBy_setCell0 _ _ _
 have hv4:w4.heap[Bs]? =some (.cells #[.slice (some ⟨g',0,none⟩) (ss.length+1) cap'] 23 (0,0)):=by rw [← hw4]; exact sq_heap_setCell_box _ hv3
 have hL4:w4.heap[l]? =some (.loop {apRec fn sv Bs D .ready none with state:= .busy}):=(hg4.block l (Array.getElem?_eq_some_iff.1 hL3).1 (λe=>hBl (by cases e; rfl))).trans hL3
 have hK4:w4.heap[D]? =some (.deferred (some [])):=(hg4.block D (Array.getElem?_eq_some_iff.1 hK3).1 (λe=>hDB (by cases e; rfl))).trans hK3
 have hrow4:=hown'.kept hg4 (Zb0 hown' hv3 (λcur e=>by cases e))
 have hl4:l < w4.heap.size:=(Array.getElem?_eq_some_iff.1 hL4).1
 have hb3:Below w0.heap.size w0 w3:=(hb2.alloc hb2.size _).grown hg3' (by have:=hb2.size; simp; omega) (λk e=>(hrow2.lt k e).1)
 have hb4:Below w0.heap.size w0 w4:=hb3.grown hg4 hb3.size (λk e=>by cases e; exact h0B)
 have hk4:KeepsWalks W w4:=((hk2.trans (KeepsWalks.alloc _ _)).trans (KeepsWalks.of_grownBy hg3' (sq_ownsRow_not_walk (hrow2.alloc _)))).trans (by rw [← hw4]; exact KeepsWalks.setCell _ _ _)
 clear hw4
 refine ⟨_,_,run_endRound none hL4,rfl,⟨⟨_,(World.putObj_heap_other hBl).trans hv4,?_,by simp⟩,World.putObj_heap_same hl4,(World.putObj_heap_other hDl).trans hK4,hb4.grown (Qr0 _ _ _) hb4.size (λk e=>by cases e; exact h0l)⟩,hk4.trans (KeepsWalks.putObj _ hL4 rfl)⟩
 have:=hrow4.kept (Qr0 w4 l (.loop {{apRec fn sv Bs D .ready none with state:= .busy} with state:=if (none:Option Code).isNone then .ready else .done,pending:=none})) (Zb0 hrow4 hL4 (λcur e=>by cases e))
 simpa using this
set_option maxRecDepth 100000 in
set_option maxHeartbeats 2000000 in
theorem appendSeq_in (F:Fence)(n:Nat)(h123:F.fn 123)(hro:F.round=none)(hn:2≤n)(g:Nat)(lb:Array Value)(hFg:F.fn g)(eg:∀ args w,(callFunc g args).run Tryz.prog w= .ok (.enter g args) w)
 (S:List Int→Prop) (N:Nat) (hN:N≤maxLen) (hNb:N * 1≤140737488355328) (w:World) (hseq:∀ (l:Nat) (J:List Int→World→Prop) (W:World),Below w.heap.size w W→(∀ pre x W1,J pre W1→pre.length < N→YieldAt F (n - 1 - 1) Tryz.prog l #[encB x] W1 λe W'=>e= .returned (.bool true)∧J (pre ++ [x]) W'∧KeepsWalks W1 W')→(∀ pre W1,J pre W1→Below w.heap.size w W1)→J [] W→CallsIn F (n - 1) Tryz.prog g (#[.func (.yield l) #[] #[]] ++ lb) W λe W'=>(∃ v,e= .returned v)∧∃ xs,S xs∧J xs W'):
 CallsIn F n Tryz.prog 123 #[.slice none 0 0,.func (.func g) #[] lb] w λe w'=>∃ (v:Value) (ss:List Int),e= .returned v∧S ss∧w'.ownsRow w.heap.size 5 1 v ss.length (ss.map encB)∧(v= .slice none 0 0↔ss= [])∧Below w.heap.size w w':=by
 have h1:1≤n:=by omega
 refine callsIn_of_wp_marks Tryz.func123 rfl h123 ?_ hro
 simp only [Tryz.ntmps123,List.size_toArray,List.length_cons,List.length_nil,Nat.reduceAdd,Nat.reduceSub,Array.replicate_succ,Array.replicate_zero,List.push_toArray,List.append_toArray,List.nil_append,List.cons_append]
 gi_wp2
 refine wpIn_rangeFunc ?_
 intro fn hfn
 rw [hro]
 obtain ⟨W0,hW0⟩:∃ W0,w.alloc (.cells #[.slice none 0 0] 23) =W0:=⟨_,rfl⟩
 have hs0:W0.heap.size=w.heap.size+1:=by rw [← hW0]; simp
 have hv0:W0.heap[w.heap.size]? =some (.cells #[.slice none 0 0] 23 (0,0)):=by rw [← hW0]; exact World.alloc_heap_new w _
 have hb0:Below w.heap.size w W0:=by rw [← hW0]; exact (Below.refl _ w).alloc (Nat.le_refl _) _
 rw [hW0]
 obtain ⟨W1,hW1⟩:∃ W1,(W0.alloc (.deferred (some []))).alloc (.loop (apRec fn (.func (.func g) #[] lb) w.heap.size W0.heap.size .ready none)) =W1:=⟨_,rfl⟩
 have hold:∀ k,k < W0.heap.size→W1.heap[k]? =W0.heap[k]?:=λk hk=>by
  rw [← hW1]; exact (Below.heap_alloc _ _ k (by simp; omega)).trans (Below.heap_alloc _ _ k hk)
 have hb1:Below w.heap.size w W1:=by rw [← hW1]; exact (hb0.alloc hb0.size _).alloc (by have:=hb0.size; simp; omega) _
 have hs1:W1.heap.size=W0.heap.size+2:=by rw [← hW1]; simp
 have hM:ApAt w fn (.func (.func g) #[] lb) w.heap.size (W0.heap.size+1) W0.heap.size [] W1:=
  ⟨⟨_,(hold w.heap.size (by omega)).trans hv0,⟨rfl,.inl ⟨rfl,rfl⟩⟩,by simp⟩,
   by rw [← hW1]; have:=World.alloc_heap_new (W0.alloc (.deferred (some []))) (.loop (apRec fn (.func (.func g) #[] lb) w.heap.size W0.heap.size .ready none)); rwa [World.size_alloc] at this,
   by rw [← hW1]; exact (Below.heap_alloc _ _ _ (by simp)).trans (World.alloc_heap_new W0 _),hb1⟩
 refine ⟨W0.heap.size+1,[{target:= .collected W0.heap.size,args:=#[]}],W1,{target:= .fn (.func g) lb,args:=#[.func (.yield (W0.heap.size+1)) #[] #[]]},W1,g,
  #[.func (.yield (W0.heap.size+1)) #[] #[]] ++ lb,W1,?_,?_,?_,?_,λ_=>h1,?_⟩
 · rw [← hW1]; exact run_enterLoop_outer _ _ _ _ _
 · simp [resolve,go_sem]
 · intro f' hf'; simp [Target.leads] at hf'; subst hf'; exact hFg
 · simp [invoke,go_sem,eg]
 · refine (hseq (W0.heap.size+1) (ApAt w fn (.func (.func g) #[] lb) w.heap.size (W0.heap.size+1) W0.heap.size) W1 (hb1)
    (λpre x W hJ hl=>apYield F (n - 1 - 1) w fn hfn _ w.heap.size (W0.heap.size+1) W0.heap.size (by omega) (by omega) (by omega) (Nat.le_refl _) (by omega) N hN hNb pre x W hJ hl) (λpre W hJ=>hJ.below) hM).mono ?_
   rintro e W2 ⟨⟨v0,rfl⟩,ss,hS,h2⟩
   obtain ⟨v,hv,hrow,hnil⟩:=h2.box
   have hend:=run_endLoop (P:=Tryz.prog) h2.L (by simp [apRec])
   obtain ⟨W3,hW3⟩:∃ W3,W2.putObj (W0.heap.size+1) (.loop {apRec fn (.func (.func g) #[] lb) w.heap.size W0.heap.size .ready none with state:= .exhausted}) =W3:=⟨_,rfl⟩
   rw [hW3] at hend
   have hg3:W2.grownBy W3 (some (W0.heap.size+1)):=by rw [← hW3]; exact Qr0 _ _ _
   have hv3:W3.heap[w.heap.size]? =some (.cells #[v] 23 (0,0)):=by rw [← hW3]; exact (World.putObj_heap_other (by omega)).trans hv
   have hK3:W3.heap[W0.heap.size]? =some (.deferred (some [])):=by rw [← hW3]; exact (World.putObj_heap_other (by omega)).trans h2.K
   have hrow3:=hrow.kept hg3 (Zb0 hrow h2.L (λcur e=>by cases e))
   have hb3:Below w.heap.size w W3:=h2.below.grown hg3 h2.below.size (λk e=>by cases e; omega)
   obtain ⟨hc3,hf3⟩:=sq_cell_of_box hv3
   clear hW3
   refine ⟨none,W3,hend,?_⟩
   gi_wp2
   rw [← hs0]
   refine ⟨by simp,.inl ⟨_,_,rfl,run_takeDeferred hK3,?_⟩⟩
   exact ⟨_,results_tmp rfl _ _ _,v,ss,rfl,hS,hrow3.kept (Qr0 _ _ _) (Zb0 hrow3 hK3 (λcur e=>by cases e)),hnil,hb3.grown (Qr0 _ _ _) hb3.size (λk e=>by cases e; omega)⟩
theorem sq_base {W:World} {base base':Nat} {e:TypeId} {size:Nat} {v:Value} {k:Nat} {xs:List Value}(h:W.ownsRow base e size v k xs)(hb:base'≤base):W.ownsRow base' e size v k xs:=by
 refine ⟨h.1,?_⟩
 rcases h.2 with hn | ⟨g,cap,cur,hv,hbg,rest⟩
 · exact .inl hn
 · exact .inr ⟨g,cap,cur,hv,Nat.le_trans hb hbg,rest⟩
theorem sq_flat:∀ ss:List Int,(u8s ss).flatten=ss.map (AV.int .u8)
 | []=>rfl
 | x::l=>by
   show [AV.int .u8 x] ++ (u8s l).flatten=AV.int .u8 x::l.map (AV.int .u8)
   rw [sq_flat l]
   rfl
theorem below_two {n:Nat} {w a b:World}(h:Below n w a)(k:Below n w b)(hs:a.heap.size≤b.heap.size):Below n a b:=
 ⟨k.os.trans h.os.symm,k.tape.trans h.tape.symm,k.output.trans h.output.symm,hs,λi hi=>(k.block i hi).trans (h.block i hi).symm⟩
def CApp:Ctr:= .gr Unit [] false λbs xs=>match xs with
 | [.nil,.ap 32 0 0 0]=>(match bs with
   | [(32,.clo 108 [_] [[.lst [.int .u8 0] es]] 0 0)]=>some (es=u8s (decU es)∧es≠ []∧es.length≤1000,λ_=>(True,.vw 64 0 0 0,[(64,.buf 5 [.int .u8 0] es)]))
   | _=>none)
 | _=>none
theorem s123 : Sound Tryz.prog 123 CApp:=by
 intro Z w θ bs xs vs q g hz hgl hin hr hf hq
 dsimp only at hf
 split at hf<;>try (cases hf; done)
 split at hf<;>try (cases hf; done)
 rename_i z0 es
 simp only [sI,Prod.mk.injEq] at hf
 obtain ⟨rfl,rfl⟩:=hf
 obtain ⟨he,hne,hlen⟩:=hq
 generalize hL:decU es=L at he
 subst he
 rw [u8s_len] at hlen
 have hl2:vs.length=2:=hr.len
 obtain ⟨v0,v1,rfl⟩:∃ v0 v1,vs= [v0,v1]:=by
  match vs,hl2 with
  | [a,b],_=>exact ⟨a,b,rfl⟩
 have r0:=hr.rep 0 .nil v0 rfl rfl
 have r1:=hr.rep 1 (.ap 32 0 0 0) v1 rfl rfl
 cases r0
 have hclo:=hin.rep (32,.clo 108 [z0] [[.lst [.int .u8 0] (u8s L)]] 0 0) (List.mem_singleton.2 rfl)
 obtain ⟨vc,hθ,hep⟩:=hclo
 cases r1 with
 | ap _ _ _ _ _ _ hv h0 h1=>
   rw [hθ] at hv
   subst hv
   cases hep with
   | ep _ _ _ _ _ Bs ob f hi hzz hat hb hmem hone hh=>
     have hc0:=hmem 0 0 (.lst [.int .u8 0] (u8s L)) rfl
     have hl0:=hh 0 0 (.lst [.int .u8 0] (u8s L)) rfl
     generalize hsv:f 0 0=sv at hc0 hl0
     cases hl0 with
     | lst _ _ _ a cap f2 hcc hmx hzs hats hmem2 hone2 hh2=>
       obtain ⟨b,o2,rfl,hZb,hcells⟩:=hmem2 hne
       have hbw:b < w.heap.size:=hz b hZb
       have hBw:Bs < w.heap.size:=hz Bs hb
       have hLn:L≠ []:=by rintro rfl; exact hne rfl
       have hcel:∀ j,j < L.length→w.cell? ⟨b,o2+j,none⟩ =some (.int .u8 (L[j]?.getD 0)):=by
        intro j hj
        have hca:cellAt (u8s L) j 0=some (.int .u8 (L.getD j 0)):=by
         simp [cellAt,u8s,List.getElem?_map,List.getElem?_eq_getElem hj,List.getD_eq_getElem?_getD]
        have e1:=hcells j 0 _ hca
        have e2:=hh2 j 0 _ hca
        have e3:f2 j 0= .int .u8 (L.getD j 0):=by
         generalize f2 j 0=x at e2
         cases e2; rfl
        rw [e3] at e1
        simpa [List.getD_eq_getElem?_getD] using e1
       refine Calls.mono (callsIn_wide.1 (appendSeq_in Fence.wide 2 trivial rfl (Nat.le_refl _) 108 #[.pointer (some ⟨Bs,ob+(0 * 1+0),none⟩)] trivial (enters_of Tryz.func108 (by kernel_rfl) rfl) (λxs=>xs=L) L.length (by unfold maxLen; omega) (by omega) w ?_)) ?_
       · intro l J W hW hY hJb h0J
         have hcW:W.cell? ⟨Bs,ob+(0 * 1+0),none⟩ =some (.slice (some ⟨b,o2,none⟩) L.length cap):=(hW.cell (p:=⟨Bs,ob+(0 * 1+0),none⟩) hBw).trans (by rw [u8s_len] at hc0; simpa using hc0)
         refine (vals_in Fence.wide 1 trivial rfl (Nat.le_refl _) l Bs (ob+(0 * 1+0)) w.heap.size b o2 L.length cap L (by omega) hbw J (λpre x W1 hp hl=>?_) W hcW (λj hj=>(hW.cell (p:=⟨b,o2+j,none⟩) hbw).trans (hcel j hj)) h0J).mono ?_
         · refine (hY pre x W1 hp hl).mono ?_
           rintro e W' ⟨rfl,hJ',hk⟩
           exact ⟨rfl,hJ',below_two (hJb _ _ hp) (hJb _ _ hJ') hk.size⟩
         · rintro e W' ⟨he,hj⟩
           exact ⟨he,L,rfl,by rw [upto_all] at hj; exact hj⟩
       · rintro e w' ⟨v,ss,rfl,rfl,hown,hnil,hbel⟩
         obtain ⟨gb,cp,cur,rfl,hgb,hcur⟩:∃ gb cp cur,v= .slice (some ⟨gb,0,none⟩) ss.length cp∧w.heap.size≤gb∧w'.heap[gb]? =some (.cells cur 5 (0,0)):=by
          rcases hown.2 with ⟨_,h0⟩ | ⟨gb,cp,cur,e1,e2,e3,_⟩
          · exact absurd (List.length_eq_zero_iff.1 h0) hLn
          · exact ⟨gb,cp,cur,e1,e2,e3⟩
         have hown0:=sq_base hown (Nat.zero_le _)
         refine ⟨(),_,Z,λj=>if j=64 then .slice (some ⟨gb,0,none⟩) ss.length cp else θ j,trivial,rfl,⟨hbel.os,hbel.tape,hbel.output,hbel.size,λk hk _=>hbel.block k hk⟩,λ_ h=>h,λ_ h=> .inl h,λk hk=>Nat.lt_of_lt_of_le (hz k hk) hbel.size,.vw _ _ _ _ _ _ _ _ rfl,?_⟩
         refine ⟨?_,?_,?_,?_⟩
         · intro x hx
           rw [List.mem_singleton.1 hx]
           refine ⟨by simp,λe he=>?_,ss.map encB,?_,?_,?_⟩
           · obtain ⟨x,_,rfl⟩:=List.mem_map.1 he; rfl
           · show w'.ownsRow 0 5 1 _ (u8s ss).length _
             rw [u8s_len]
             exact hown0
           · intro k hk hZ
             have:k=gb:=by simpa [bk] using hk.symm
             subst this
             exact absurd (hz k hZ) (by omega)
           · rw [show (u8s ss).flatten=ss.map (AV.int .u8) from sq_flat ss]
             refine ⟨by simp,λc hc=>?_,λc hc=>?_,λi c u hc hu=>?_⟩
             · obtain ⟨x,_,rfl⟩:=List.mem_map.1 hc; rfl
             · obtain ⟨x,_,rfl⟩:=List.mem_map.1 hc; rfl
             · rw [List.getElem?_map] at hc hu
               obtain ⟨x,hx,rfl⟩:=Option.map_eq_some_iff.1 hc
               rw [hx] at hu
               cases hu
               exact .int _ _ _
         · intro x hx y hy b _ _
           rw [List.mem_singleton.1 hx,List.mem_singleton.1 hy]
         · intro x hx b hb
           rw [List.mem_singleton.1 hx] at hb
           have:b=gb:=by simpa [bk] using hb.symm
           subst this
           exact .inr (.inl hgb)
         · intro j hj
           show (if j=64 then _ else θ j) =θ j
           rw [if_neg (by omega)]
end Go.Proofs.YthgmdkokaflgjaaGreatDoor
open Go
namespace Go.Proofs.YthgmdkokaflgjaaGreatDoor
open Go Go.RowKit Go.Ev
set_option maxRecDepth 20000
set_option maxHeartbeats 4000000
variable {Phi:Nat→Option Ctr}
def CCmS:Ctr:= .mk false λ_ xs=>match xs with
 | [.int .u8 a,.int .u8 b,.ep zz [cs] 0 0]=>some (zz=cs∧cs=(seD cs).cs∧NL (seD cs).pt,.int .i64 (cmp3 (num (seD cs).sg a) (num (seD cs).sg b)),[])
 | _=>none
def nm' (sg:Bool)(M:List Int)(a:Nat):Int:=num sg (M.getD a 0)
def So (sg:Bool)(M:List Int)(i:Nat):Prop:=∀ a b,a < b→b < i→nm' sg M a≤nm' sg M b
def Sj (sg:Bool)(M:List Int)(i j:Nat):Prop:=(∀ a b,a < b→b≤i→a≠j→b≠j→nm' sg M a≤nm' sg M b)∧∀ b,j < b→b≤i→nm' sg M j≤nm' sg M b
def SP (sg:Bool)(L M:List Int):Prop:=M.Perm L∧So sg M M.length
theorem Sj.start {sg:Bool} {M:List Int} {i:Nat}(h:So sg M i):Sj sg M i i:=⟨λa b hab hb _ hbi=>h a b hab (by omega),λb h1 h2=>by omega⟩
theorem getD_set7 (M:List Int)(k a:Nat)(x:Int)(hk:k < M.length):(M.set k x).getD a 0=if a=k then x else M.getD a 0:=by
 rw [List.getD_eq_getElem?_getD,List.getElem?_set]
 by_cases h:k=a
 · subst h
   rw [if_pos rfl,if_pos hk,if_pos rfl]
   rfl
 · rw [if_neg h,if_neg (λe=>h e.symm),List.getD_eq_getElem?_getD]
def swp (M:List Int)(j:Nat):List Int:=(M.set j (M.getD (j - 1) 0)).set (j - 1) (M.getD j 0)
theorem swp_get {M:List Int} {j:Nat}(h0:0 < j)(hj:j < M.length)(a:Nat):(swp M j).getD a 0=if a=j - 1 then M.getD j 0 else if a=j then M.getD (j - 1) 0 else M.getD a 0:=by
 rw [swp,getD_set7 _ _ _ _ (by rw [List.length_set]; omega)]
 split
 · rfl
 · rw [getD_set7 _ _ _ _ hj]
theorem swp_perm {M:List Int} {j:Nat}(h0:0 < j)(hj:j < M.length):(swp M j).Perm M:=by
 have e1:M.getD (j - 1) 0=M[j - 1]:=by rw [List.getD_eq_getElem?_getD,List.getElem?_eq_getElem (by omega)]; rfl
 have e2:M.getD j 0=M[j]:=by rw [List.getD_eq_getElem?_getD,List.getElem?_eq_getElem hj]; rfl
 rw [swp,e1,e2]
 exact List.set_set_perm hj (by omega)
theorem Sj.step {sg:Bool} {M:List Int} {i j:Nat}(h:Sj sg M i j)(h0:0 < j)(hj:j≤i)(hi:i < M.length)(hl:nm' sg M j < nm' sg M (j - 1)):Sj sg (swp M j) i (j - 1):=by
 have hg:∀ a,nm' sg (swp M j) a=if a=j - 1 then nm' sg M j else if a=j then nm' sg M (j - 1) else nm' sg M a:=by
  intro a
  rw [nm',swp_get h0 (by omega)]
  split
  · rfl
  · split<;>rfl
 refine ⟨λa b hab hb ha hb'=>?_,λb h1 h2=>?_⟩
 · rw [hg,hg,if_neg ha,if_neg hb']
   by_cases e1:a=j
   · rw [if_pos e1,if_neg (by omega)]
     exact h.1 (j - 1) b (by omega) hb (by omega) (by omega)
   · rw [if_neg e1]
     by_cases e2:b=j
     · rw [if_pos e2]
       exact h.1 a (j - 1) (by omega) (by omega) e1 (by omega)
     · rw [if_neg e2]
       exact h.1 a b hab hb e1 e2
 · rw [hg,hg,if_pos rfl,if_neg (by omega)]
   by_cases e:b=j
   · rw [if_pos e]; omega
   · rw [if_neg e]
     exact h.2 b (by omega) h2
theorem Sj.done {sg:Bool} {M:List Int} {i j:Nat}(h:Sj sg M i j)(hj:j≤i)(hl:j=0∨nm' sg M (j - 1)≤nm' sg M j):So sg M (i+1):=by
 intro a b hab hb
 by_cases e1:a=j
 · subst e1; exact h.2 b hab (by omega)
 · by_cases e2:b=j
   · subst e2
     rcases hl with hl | hl
     · omega
     · by_cases e3:a=b - 1
       · subst e3; exact hl
       · have:=h.1 a (b - 1) (by omega) (by omega) e1 (by omega)
         omega
   · exact h.1 a b hab (by omega) e1 e2
theorem cmp3_lt (a b:Int):cmp3 a b < 0↔a < b:=by
 unfold cmp3
 split
 · rename_i h; exact ⟨λ_=>h,λ_=>by decide⟩
 · split<;>rename_i h1 h2<;>exact ⟨λh=>absurd h (by decide),λh=>absurd h h1⟩
def CIns:Ctr:= .gr (List Int) [] false λbs xs=>match xs with
 | [.vw 32 0 0 0,.int .i64 0,.int .i64 n,.ap 33 0 0 0]=>(match bs with
   | [(32,.buf 5 z es),(33,.clo 83 zz [cs] 0 0)]=>some ((z= [.int .u8 0]∧es=u8s (decU es))∧(zz=cs∧cs=(seD cs).cs∧NL (seD cs).pt)∧n=es.length∧1≤n∧n≤12,λM=>(SP (seD cs).sg (decU es) M,.tup [],[(32,.buf 5 [.int .u8 0] (u8s M)),(33,.clo 83 cs [cs] 0 0)]))
   | _=>none)
 | _=>none
def CPdq:Ctr:= .gr (List Int) [] false λbs xs=>match xs with
 | [.vw 32 0 0 0,.int .i64 0,.int .i64 n,.int .i64 _,.ap 33 0 0 0]=>(match bs with
   | [(32,.buf 5 z es),(33,.clo 83 zz [cs] 0 0)]=>some ((z= [.int .u8 0]∧es=u8s (decU es))∧(zz=cs∧cs=(seD cs).cs∧NL (seD cs).pt)∧n=es.length∧1≤n∧n≤12,λM=>(SP (seD cs).sg (decU es) M,.tup [],[(32,.buf 5 [.int .u8 0] (u8s M)),(33,.clo 83 cs [cs] 0 0)]))
   | _=>none)
 | _=>none
def lnV (x:Int):Int:=if x=1 then 1 else if x=3 then 2 else 3
def CLn:Ctr:= .mk false λ_ xs=>match xs with
 | [.int .u64 x]=>some (x=1∨x=3∨x=5,.int .i64 (lnV x),[])
 | _=>none
def CSf:Ctr:= .gr (List Int) [] false λbs xs=>match xs with
 | [.vw 32 0 0 0,.ap 33 0 0 0]=>(match bs with
   | [(32,.buf 5 z es),(33,.clo 83 zz [cs] 0 0)]=>some ((z= [.int .u8 0]∧es=u8s (decU es))∧(zz=cs∧cs=(seD cs).cs∧NL (seD cs).pt)∧(es.length=1∨es.length=3∨es.length=5),λM=>(SP (seD cs).sg (decU es) M,.tup [],[(32,.buf 5 [.int .u8 0] (u8s M)),(33,.clo 83 cs [cs] 0 0)]))
   | _=>none)
 | _=>none
def CVals:Ctr:= .gr Unit [] true λbs xs=>match xs with
 | [.lst z es]=>some (bs= [],λ_=>(True,.ap 256 0 0 0,[(256,.clo 108 [.lst z es] [[.lst z es]] 0 0)]))
 | _=>none
def CCol:Ctr:= .gr Unit [] false λbs xs=>match xs with
 | [.ap 32 0 0 0]=>(match bs with
   | [(32,.clo 108 [_] [[.lst [.int .u8 0] es]] 0 0)]=>some (es=u8s (decU es)∧es≠ []∧es.length≤1000,λ_=>(True,.vw 320 0 0 0,[(320,.buf 5 [.int .u8 0] es)]))
   | _=>none)
 | _=>none
theorem walk83 (P14:Phi 14=some CNum)(P84:Phi 84=some CCmp)(s:Se)(hp:NL s.pt)(a b:Int):evC Phi (noI) rc83 ⟨initS [U a,U b,.ep s.cs [s.cs] 0 0],initM false []⟩ (kRet rv83 (Ii (cmp3 (num s.sg a) (num s.sg b))) false []):=by
 simp (maxSteps:=2000000) only [rc83,Se.cs,pk,un,rv83,Nat.reduceMul,Nat.reduceAdd,Nat.reduceEqDiff,↓reduceIte,Qf0,P14,CNum,P84,CCmp,Nat.reduceBEq]
structure K133a (s:Se)(L:List Int) where
 M:List Int
 i:Nat
 hM:M.Perm L
 h1:1≤i
 hi:i≤L.length
 hs:So s.sg M i
def S133a (s:Se)(L:List Int)(p:K133a s L):SL:=⟨[(0,.vw 32 0 0 0),(1,Ii 0),(2,Ii L.length),(3,.ap 33 0 0 0),(8,Ii p.i)],[(32,.buf 5 [U 0] (u8s p.M)),(33,.clo 83 s.cs [s.cs] 0 0)]⟩
abbrev L133a (s:Se)(L:List Int):LI:=⟨K133a s L,S133a s L,λp=>L.length - p.i,λp q=>True⟩
theorem L133aS (s:Se)(L:List Int):(L133a s L).S=S133a s L:=rfl
theorem L133aR (s:Se)(L:List Int)(p q:K133a s L):(L133a s L).R p q=(True):=rfl
structure K133b (s:Se)(L:List Int) where
 M:List Int
 i:Nat
 j:Nat
 hM:M.Perm L
 h1:1≤i
 hi:i < L.length
 hj:j≤i
 hs:Sj s.sg M i j
def S133b (s:Se)(L:List Int)(p:K133b s L):SL:=⟨[(0,.vw 32 0 0 0),(1,Ii 0),(2,Ii L.length),(3,.ap 33 0 0 0),(8,Ii p.i),(9,Ii p.j)],[(32,.buf 5 [U 0] (u8s p.M)),(33,.clo 83 s.cs [s.cs] 0 0)]⟩
abbrev L133b (s:Se)(L:List Int):LI:=⟨K133b s L,S133b s L,λp=>p.j,λp q=>q.i=p.i⟩
theorem L133bS (s:Se)(L:List Int):(L133b s L).S=S133b s L:=rfl
theorem L133bR (s:Se)(L:List Int)(p q:K133b s L):(L133b s L).R p q=(q.i=p.i):=rfl
def I133 (s:Se)(L:List Int):Nat→LI:=λn=>if n=0 then L133a s L else L133b s L
theorem I133_0 (s:Se)(L:List Int):I133 s L 0=L133a s L:=rfl
theorem I133_1 (s:Se)(L:List Int):I133 s L 1=L133b s L:=rfl
theorem walk133 (P83:Phi 83=some CCmS)(s:Se)(hp:NL s.pt)(L:List Int)(h1:1≤L.length)(h2:L.length≤12):evC Phi (I133 s L) rc133 ⟨initS [.vw 32 0 0 0,.int .i64 0,.int .i64 L.length,.ap 33 0 0 0],lookM [(32,.buf 5 [.int .u8 0] (u8s L)),(33,.clo 83 s.cs [s.cs] 0 0)]⟩ (kRetG rv133 (λM=>(SP s.sg L M,.tup [],[(32,.buf 5 [.int .u8 0] (u8s M)),(33,.clo 83 s.cs [s.cs] 0 0)]))):=by
 simp (maxSteps:=2000000) only [rc133,Se.cs,rv133,pk,un,↓reduceIte,I133_0,L133aS,S133a,Nat.reduceEqDiff,L133aR,I133_1,L133bS,S133b,L133bR,Nat.reduceAdd,fs_83,P83,CCmS,seD_lit,Nat.reduceLeDiff,u8s_set',Nat.reduceBEq]
 refine ⟨⟨L,1,List.Perm.refl _,Nat.le_refl _,h1,λa b hab hb=>by omega⟩,⟨rfl,rfl⟩,?_⟩
 rintro ⟨M,i,hM,g1,hi,hs⟩
 dsimp only
 have hl:=hM.length_eq
 refine ⟨λhc=>?_,λhc=>?_⟩
 · have hc:=of_decide_eq_true hc
   refine ⟨⟨M,i,i,hM,g1,by omega,Nat.le_refl _,Sj.start hs⟩,⟨⟨rfl,rfl⟩,rfl⟩,?_⟩
   rintro ⟨M',i',j,hM',g1',hi',hj,hs'⟩ hR
   dsimp only at hR ⊢
   subst hR
   have hl':=hM'.length_eq
   have hj0:some (decide (0 < (j:Int))) =some true→0 < j:=λh=>by
    have:=of_decide_eq_true (Option.some.inj h)
    omega
   have hw:0 < j→IntKind.i64.wrap ((j:Int) - 1) =((j - 1:Nat):Int):=λh=>by rw [wr_in _ (by omega) (by omega)]; omega
   refine ⟨λh=>⟨by omega,by omega⟩,λh=>by omega,λh=>?_,λh=>?_,λ_=>hp,λh=>?_,λh=>?_⟩
   · have:=hj0 h
     rw [hw this]; omega
   · have:=hj0 h
     rw [hw this,Int.toNat_natCast]; omega
   · simp only [Bool.and_eq_true,decide_eq_true_eq] at h
     obtain ⟨h0,h3⟩:=h
     have h0:0 < j:=by omega
     rw [hw h0,Int.toNat_natCast] at h3 ⊢
     have h4:nm' s.sg M' j < nm' s.sg M' (j - 1):=(cmp3_lt _ _).1 h3
     rw [List.length_set]
     refine ⟨by omega,by omega,by omega,by omega,by omega,by omega,by omega,by omega,λ_ _ _ _=>?_⟩
     exact ⟨⟨swp M' j,i',j - 1,(swp_perm h0 (by omega)).trans hM',g1',hi',by omega,hs'.step h0 hj (by omega) h4⟩,⟨⟨rfl,rfl⟩,rfl⟩,rfl,by dsimp only; omega⟩
   · refine ⟨⟨M',i'+1,hM',by omega,by omega,hs'.done hj ?_⟩,⟨congrArg _ (wr_succ i' (by omega)),rfl⟩,by dsimp only; omega⟩
     by_cases h0:j=0
     · exact .inl h0
     · rw [decide_eq_true (by omega:(0:Int) < j),Bool.true_and,hw (by omega),Int.toNat_natCast] at h
       have h:=of_decide_eq_false h
       rw [cmp3_lt] at h
       exact .inr (by unfold nm'; omega)
 · have hc:=of_decide_eq_false hc
   have e:i=L.length:=by omega
   subst e
   exact ⟨M,⟨hM,by rw [hl]; exact hs⟩,rfl⟩
def S124a (s:Se)(L:List Int)(lim:Int)(p:Unit):SL:=⟨[(0,.vw 32 0 0 0),(1,Ii 0),(2,Ii L.length),(3,Ii lim),(4,.ap 33 0 0 0),(10,.bool true),(11,.bool true)],[(32,.buf 5 [U 0] (u8s L)),(33,.clo 83 s.cs [s.cs] 0 0)]⟩
abbrev L124a (s:Se)(L:List Int)(lim:Int):LI:=⟨Unit,S124a s L lim,λp=>0,λp q=>True⟩
theorem L124aS (s:Se)(L:List Int)(lim:Int):(L124a s L lim).S=S124a s L lim:=rfl
theorem L124aR (s:Se)(L:List Int)(lim:Int)(p q:Unit):(L124a s L lim).R p q=(True):=rfl
def I124 (s:Se)(L:List Int)(lim:Int):Nat→LI:=λn=>L124a s L lim
theorem I124_0 (s:Se)(L:List Int)(lim:Int):I124 s L lim 0=L124a s L lim:=rfl
theorem walk124 (P133:Phi 133=some CIns)(s:Se)(hp:NL s.pt)(L:List Int)(h1:1≤L.length)(h2:L.length≤12)(lim:Int)(h3:decide (IntKind.i64.wrap ((L.length:Int) - 0)≤12) =true):evC Phi (I124 s L lim) rc124 ⟨initS [.vw 32 0 0 0,.int .i64 0,.int .i64 L.length,.int .i64 lim,.ap 33 0 0 0],lookM [(32,.buf 5 [.int .u8 0] (u8s L)),(33,.clo 83 s.cs [s.cs] 0 0)]⟩ (kRetG rv124 (λM=>(SP s.sg L M,.tup [],[(32,.buf 5 [.int .u8 0] (u8s M)),(33,.clo 83 s.cs [s.cs] 0 0)]))):=by
 simp (maxSteps:=2000000) only [rc124,Se.cs,rv124,pk,un,I124_0,L124aS,S124a,Nat.reduceEqDiff,↓reduceIte,L124aR,h3,P133,CIns,Nat.reduceAdd,Nat.reduceLT,Nat.reduceLeDiff,Nat.reduceBEq,Qh0,seD_lit,Option.isSome_some,↓Qi0,exists_const]
 exact ⟨⟨hp,by omega,by omega⟩,λM h=>⟨M,h,rfl⟩⟩
theorem walk142_1  :evC Phi (noI) rc142 ⟨initS [.int .u64 1],initM false []⟩ (kRet rv142 (Ii 1) false []):=by
 simp (maxSteps:=2000000) only [rc142,pk,un,rv142,Nat.reduceEqDiff,↓reduceIte,Int.reduceLE,Nat.reduceLeDiff,Nat.reduceAdd]
 exact ⟨⟨by decide,by decide⟩,congrArg _ (by decide)⟩
theorem walk142_3  :evC Phi (noI) rc142 ⟨initS [.int .u64 3],initM false []⟩ (kRet rv142 (Ii 2) false []):=by
 simp (maxSteps:=2000000) only [rc142,pk,un,rv142,Nat.reduceEqDiff,↓reduceIte,Int.reduceLE,Nat.reduceLeDiff,Nat.reduceAdd]
 exact ⟨⟨by decide,by decide⟩,congrArg _ (by decide)⟩
theorem walk142_5  :evC Phi (noI) rc142 ⟨initS [.int .u64 5],initM false []⟩ (kRet rv142 (Ii 3) false []):=by
 simp (maxSteps:=2000000) only [rc142,pk,un,rv142,Nat.reduceEqDiff,↓reduceIte,Int.reduceLE,Nat.reduceLeDiff,Nat.reduceAdd]
 exact ⟨⟨by decide,by decide⟩,congrArg _ (by decide)⟩
theorem walk125 (P142:Phi 142=some CLn)(x:Int)(h:x=1∨x=3∨x=5):evC Phi (noI) rc125 ⟨initS [.int .u64 x],initM false []⟩ (kRet rv125 (Ii (lnV x)) false []):=by
 simp (maxSteps:=2000000) only [rc125,pk,un,rv125,Nat.reduceEqDiff,↓reduceIte,P142,CLn]
 exact h
theorem walk107 (P125:Phi 125=some CLn)(P124:Phi 124=some CPdq)(s:Se)(hp:NL s.pt)(L:List Int)(h:L.length=1∨L.length=3∨L.length=5):evC Phi (noI) rc107 ⟨initS [.vw 32 0 0 0,.ap 33 0 0 0],lookM [(32,.buf 5 [.int .u8 0] (u8s L)),(33,.clo 83 s.cs [s.cs] 0 0)]⟩ (kRetG rv107 (λM=>(SP s.sg L M,.tup [],[(32,.buf 5 [.int .u8 0] (u8s M)),(33,.clo 83 s.cs [s.cs] 0 0)]))):=by
 simp (maxSteps:=2000000) only [rc107,Se.cs,rv107,pk,un,↓reduceIte,Nat.reduceEqDiff,P125,CLn,P124,CPdq,Nat.reduceAdd,Nat.reduceLT,Nat.reduceLeDiff,Nat.reduceBEq,Qh0,seD_lit,Option.isSome_some]
 intro _
 have e:IntKind.u64.wrap (L.length:Int) =L.length:=by rcases h with h | h | h<;>rw [h]<;>decide
 rw [e]
 exact ⟨by omega,⟨hp,by omega,by omega⟩,λM h=>⟨M,h,rfl⟩⟩
theorem walk82 (z:List AV)(es:List (List AV)):evC Phi (noI) rc82 ⟨initS [.lst z es],lookM []⟩ (kRetG rv82 (λ(_ :Unit)=>(True,.ap 256 0 0 0,[(256,.clo 108 [.lst z es] [[.lst z es]] 0 0)]))):=by
 simp (maxSteps:=2000000) only [rc82,rv82,pk,un,Nat.reduceAdd,Nat.reduceEqDiff,↓reduceIte,Nat.reduceLeDiff,Nat.reduceMul,↓Qj0]
theorem walk106 (P123:Phi 123=some CApp)(z0:AV)(L:List Int)(h0:u8s L≠ [])(hl:(u8s L).length≤1000):evC Phi (noI) rc106 ⟨initS [.ap 32 0 0 0],lookM [(32,.clo 108 [z0] [[.lst [.int .u8 0] (u8s L)]] 0 0)]⟩ (kRetG rv106 (λ(_ :Unit)=>(True,.vw 320 0 0 0,[(320,.buf 5 [.int .u8 0] (u8s L))]))):=by
 simp (maxSteps:=2000000) only [rc106,rv106,pk,un,Nat.reduceEqDiff,↓reduceIte,P123,CApp,Nat.reduceLT,Qh0,↓Qi0,Nat.reduceMul,Nat.reduceAdd,Nat.reduceLeDiff,↓Qj0]
 exact ⟨h0,by rwa [u8s_len] at hl⟩
def CSd:Ctr:= .gr (List Int) [] false λbs xs=>match xs with
 | [.ap 32 0 0 0,.ap 33 0 0 0]=>(match bs with
   | [(32,.clo 108 [_] [[.lst z es]] 0 0),(33,.clo 83 zz [cs] 0 0)]=>some ((z= [.int .u8 0]∧es=u8s (decU es))∧(zz=cs∧cs=(seD cs).cs∧NL (seD cs).pt)∧(es.length=1∨es.length=3∨es.length=5),λM=>(SP (seD cs).sg (decU es) M,.vw 384 0 0 0,[(384,.buf 5 [.int .u8 0] (u8s M))]))
   | _=>none)
 | _=>none
theorem wrap_i8 (n:Int):IntKind.i8.wrap n=if 128≤n % 256 then n % 256 - 256 else n % 256:=by
 have:(2:Int) ^ 8=256:=by decide
 have h7:(2:Int) ^ 7=128:=by decide
 simp [IntKind.wrap,IntKind.bits,IntKind.signed]
theorem num_inj {sg:Bool} {a b:Int}(ha:0≤a∧a≤255)(hb:0≤b∧b≤255)(h:num sg a=num sg b):a=b:=by
 unfold num W at h
 cases sg
 · simp only [Bool.false_eq_true,if_false] at h
   rw [wr_in a (by omega) (by omega),wr_in b (by omega) (by omega)] at h
   exact h
 · simp only [if_true] at h
   have e:∀ x:Int,0≤x∧x≤255→IntKind.i8.wrap x=if x≤127 then x else x - 256:=by
    intro x hx
    rw [wrap_i8]
    split<;>split<;>omega
   rw [e a ha,e b hb] at h
   have w:∀ x:Int,0≤x∧x≤255→IntKind.i64.wrap (if x≤127 then x else x - 256) =if x≤127 then x else x - 256:=λx hx=>wr_in _ (by split<;>omega) (by split<;>omega)
   rw [w a ha,w b hb] at h
   split at h<;>split at h<;>omega
theorem So.pw {sg:Bool} {M:List Int}(h:So sg M M.length):M.Pairwise (λa b=>num sg a≤num sg b):=by
 rw [List.pairwise_iff_getElem]
 intro i j hi hj hij
 have:=h i j hij hj
 unfold nm' at this
 rw [List.getD_eq_getElem?_getD,List.getD_eq_getElem?_getD,List.getElem?_eq_getElem hi,List.getElem?_eq_getElem hj] at this
 exact this
def Byt (L:List Int):Prop:=∀ x∈L,0≤x∧x≤255
theorem SP.uniq {sg:Bool} {L M N:List Int}(hL:Byt L)(h1:SP sg L M)(h2:SP sg L N):M=N:=by
 refine List.Perm.eq_of_pairwise (le:=λa b=>num sg a≤num sg b) (λa b ha hb h3 h4=>?_) h1.2.pw h2.2.pw (h1.1.trans h2.1.symm)
 exact num_inj (sg:=sg) (hL a (h1.1.subset ha)) (hL b (h2.1.subset hb)) (Int.le_antisymm h3 h4)
open Classical in
noncomputable def med (sg:Bool)(L:List Int):Int:=if h:∃ M,SP sg L M then h.choose.getD (L.length / 2) 0 else 0
theorem med_eq {sg:Bool} {L M:List Int}(hL:Byt L)(h:SP sg L M):med sg L=M.getD (M.length / 2) 0:=by
 have hx:∃ M,SP sg L M:=⟨M,h⟩
 unfold med
 rw [dif_pos hx,SP.uniq hL hx.choose_spec h,h.1.length_eq]
noncomputable def rdV (s:Se)(L:List Int):Int:=if (L.length:Int) =s.sa then med s.sg L else 0
def rdK (s:Se)(L:List Int):Bool:=decide ((L.length:Int) =s.sa)
noncomputable def CRd:Ctr:= .mk false λ_ xs=>match xs with
 | [.agg cs,.agg [w,.int .i64 m]]=>some (cs=(seD cs).cs∧OkS (seD cs)∧WOk w∧okF (seD cs) (wOf w) m∧Byt (wOf w),.tup [.int .u8 (rdV (seD cs) (wOf w)),.bool (rdK (seD cs) (wOf w))],[])
 | _=>none
def DCn:Ctr:= .ext false Unit λ_ xs=>match xs with
 | [.lst zz es]=>some ((zz= [.int .u8 0]∧es=u8s (decU es))∧es.length≤1000000,λ_=>(True,.fr 0 5 [.int .u8 0] (u8s (decU es)),[]))
 | [.nil]=>some (True,λ_=>(True,.nil,[]))
 | _=>none
def stW (s:Se)(L:List Int)(raw:Int)(ok:Bool)(m:Int):List Int:=if ok then (if s.sa < ((L ++ [raw]).length:Nat) then (L ++ [raw]).drop 1 else L ++ [raw]) else if min (m+1) 3=3 then [] else L
def stM (m:Int)(ok:Bool):Int:=if ok then 0 else min (m+1) 3
def CSt:Ctr:= .mk false λ_ xs=>match xs with
 | [.agg cs,.agg [w,.int .i64 m],.int .u8 raw,.bool ok]=>some (cs=(seD cs).cs∧OkS (seD cs)∧WOk w∧okF (seD cs) (wOf w) m,.tup [.agg [.lst [.int .u8 0] (u8s (stW (seD cs) (wOf w) raw ok m)),.int .i64 (stM m ok)],.int .i64 0],[])
 | _=>none
theorem walk81 (P106:Phi 106=some CCol)(P107:Phi 107=some CSf)(s:Se)(hp:NL s.pt)(z0:AV)(L:List Int)(h:L.length=1∨L.length=3∨L.length=5):evC Phi (noI) rc81 ⟨initS [.ap 32 0 0 0,.ap 33 0 0 0],lookM [(32,.clo 108 [z0] [[.lst [.int .u8 0] (u8s L)]] 0 0),(33,.clo 83 s.cs [s.cs] 0 0)]⟩ (kRetG rv81 (λM=>(SP s.sg L M,.vw 384 0 0 0,[(384,.buf 5 [.int .u8 0] (u8s M))]))):=by
 simp (maxSteps:=2000000) only [rc81,Se.cs,rv81,pk,un,Nat.reduceEqDiff,↓reduceIte,P106,CCol,Nat.reduceLT,Qh0,↓Qi0,Nat.reduceMul,Nat.reduceAdd,Nat.reduceLeDiff,P107,CSf,Nat.reduceBEq,seD_lit,Option.isSome_some]
 have h0:u8s L≠ []:=by
  intro e
  have:=congrArg List.length e
  rw [u8s_len,List.length_nil] at this
  omega
 exact ⟨⟨h0,by omega⟩,⟨hp,h⟩,λM hM=>⟨M,hM,rfl⟩⟩
theorem walk43n (P80:Phi 80=some CFv)(s:Se)(h:OkS s)(L:List Int)(m:Int)(hf:okF s L m)(hL:L= []):evC Phi (noI) rc43 ⟨initS [.agg s.cs,.agg [.nil,Ii m]],initM false []⟩ (kRet rv43 (.tup [U (rdV s L),.bool (rdK s L)]) false []):=by
 simp (maxSteps:=2000000) only [rc43,Se.cs,pk,un,rv43,Nat.reduceAdd,↓reduceIte,Nat.reduceMul,NL.k0 h.np,Nat.reduceEqDiff,Nat.reduceLeDiff,P80,CFv,NL.la h.np,seD_lit,WOk.n,wOf_n,NL.c0 h.np]
 subst hL
 have e:¬ (0:Int) =s.sa:=by rcases h.sa with e | e | e<;>omega
 have e1:(false || !decide (0=s.sa)) =true:=by rw [decide_eq_false e]; rfl
 rw [e1]
 have e2:rdV s [] =0:=if_neg e
 have e3:rdK s [] =false:=decide_eq_false e
 rw [e2,e3]
 exact ⟨⟨h,hf⟩,λ_=>⟨rfl,rfl⟩,λhc=>(by cases hc)⟩
theorem walk43l (P80:Phi 80=some CFv)(P81:Phi 81=some CSd)(P82:Phi 82=some CVals)(s:Se)(h:OkS s)(L:List Int)(m:Int)(hf:okF s L m)(hL:Byt L):evC Phi (noI) rc43 ⟨initS [.agg s.cs,.agg [.lst [U 0] (u8s L),Ii m]],initM false []⟩ (kRet rv43 (.tup [U (rdV s L),.bool (rdK s L)]) false []):=by
 simp (maxSteps:=2000000) only [rc43,Se.cs,pk,un,rv43,Nat.reduceAdd,↓reduceIte,Nat.reduceMul,NL.k0 h.np,Nat.reduceEqDiff,Nat.reduceLeDiff,P80,CFv,NL.la h.np,seD_lit,WOk.l,wOf_l,NL.c0 h.np,P82,CVals,↓Qi0,P81,CSd,Nat.reduceBEq,Nat.reduceLT,Qh0]
 refine ⟨⟨h,hf⟩,λhc=>?_,λhc=>?_⟩
 · have e:¬ (L.length:Int) =s.sa:=by
    simpa using hc
   have e2:rdV s L=0:=if_neg e
   have e3:rdK s L=false:=decide_eq_false e
   rw [e2,e3]
   exact ⟨rfl,rfl⟩
 · have e:(L.length:Int) =s.sa:=by
    simpa using hc
   have e2:rdV s L=med s.sg L:=if_pos e
   have e3:rdK s L=true:=decide_eq_true e
   rw [e2,e3]
   have hs:=h.sa
   refine ⟨⟨h.np,by omega⟩,λM hM _=>?_⟩
   have hl:=hM.1.length_eq
   have ew:IntKind.i64.wrap ((M.length:Int).tdiv 2) =((M.length / 2:Nat):Int):=by
    rw [Int.tdiv_eq_ediv_of_nonneg (by omega),wr_in _ (by omega) (by omega)]
    omega
   rw [ew,Int.toNat_natCast,med_eq hL hM]
   exact ⟨by decide,⟨by omega,by omega⟩,λ_=>⟨by omega,rfl,rfl⟩⟩
theorem walk87n  :evC Phi (noI) rc87 ⟨initS [.nil],initM false []⟩ (kRetX rv87 false (λ(_ :Unit)=>(True,.nil,[]))):=by
 simp (maxSteps:=2000000) only [rc87,pk,un,rv87,Nat.reduceEqDiff,↓reduceIte,↓Qj0,Nat.reduceMul,Nat.reduceAdd,Nat.reduceLeDiff]
theorem walk74nt (P80:Phi 80=some CFv)(P87:Phi 87=some DCn)(s:Se)(h:OkS s)(L:List Int)(m raw:Int)(hf:okF s L m)(hL:L= []):evC Phi (noI) rc74 ⟨initS [.agg s.cs,.agg [.nil,Ii m],U raw,.bool true],initM false []⟩ (kRet rv74 (.tup [.agg [.lst [U 0] (u8s (stW s L raw true m)),Ii (stM m true)],Ii 0]) false []):=by
 simp (maxSteps:=2000000) only [rc74,Se.cs,pk,un,rv74,Nat.reduceAdd,↓reduceIte,Nat.reduceMul,NL.k0 h.np,Nat.reduceEqDiff,Nat.reduceLeDiff,P80,CFv,NL.la h.np,seD_lit,WOk.n,wOf_n,P87,DCn,↓Qi0,Nat.reduceLT,Int.reduceLE,Int.reduceToNat]
 subst hL
 have e:¬ s.sa < ((1:Nat):Int):=by rcases h.sa with e | e | e<;>omega
 refine ⟨⟨h,hf⟩,λhc=>absurd (of_decide_eq_true hc) e,λ_=>?_⟩
 have e2:stW s [] raw true m= [raw]:=by
  unfold stW
  rw [if_pos rfl]
  exact if_neg e
 rw [e2]
 exact ⟨rfl,rfl⟩
theorem walk74nf (P80:Phi 80=some CFv)(P87:Phi 87=some DCn)(s:Se)(h:OkS s)(L:List Int)(m raw:Int)(hf:okF s L m)(hL:L= []):evC Phi (noI) rc74 ⟨initS [.agg s.cs,.agg [.nil,Ii m],U raw,.bool false],initM false []⟩ (kRet rv74 (.tup [.agg [.lst [U 0] (u8s (stW s L raw false m)),Ii (stM m false)],Ii 0]) false []):=by
 simp (maxSteps:=2000000) only [rc74,Se.cs,pk,un,rv74,Nat.reduceAdd,↓reduceIte,Nat.reduceMul,NL.k0 h.np,Nat.reduceEqDiff,Nat.reduceLeDiff,P80,CFv,NL.la h.np,seD_lit,WOk.n,wOf_n,P87,DCn,↓Qi0,Nat.reduceLT,Int.reduceLE,Int.reduceToNat]
 subst hL
 have w:IntKind.i64.wrap (m+1) =m+1:=wr_in _ (by have:=hf.m0; omega) (by have:=hf.m3; omega)
 rw [w]
 have e:stW s [] raw false m= []:=by
  unfold stW
  rw [if_neg (by decide)]
  split<;>rfl
 rw [e]
 exact ⟨⟨h,hf⟩,λ_=>⟨rfl,rfl⟩,λ_=>⟨rfl,rfl⟩⟩
theorem walk74lt (P80:Phi 80=some CFv)(P87:Phi 87=some DCn)(s:Se)(h:OkS s)(L:List Int)(m raw:Int)(hf:okF s L m):evC Phi (noI) rc74 ⟨initS [.agg s.cs,.agg [.lst [U 0] (u8s L),Ii m],U raw,.bool true],initM false []⟩ (kRet rv74 (.tup [.agg [.lst [U 0] (u8s (stW s L raw true m)),Ii (stM m true)],Ii 0]) false []):=by
 simp (maxSteps:=2000000) only [rc74,Se.cs,pk,un,rv74,Nat.reduceAdd,↓reduceIte,Nat.reduceMul,NL.k0 h.np,Nat.reduceEqDiff,Nat.reduceLeDiff,P80,CFv,NL.la h.np,seD_lit,WOk.l,wOf_l,P87,DCn,Qh0,↓Qi0,Nat.reduceLT,flatU,u8s_snoc,Int.reduceLE,Int.reduceToNat,u8s_drop,Zx0]
 have hle:=hf.le
 have hsa:s.sa≤5:=by rcases h.sa with e | e | e<;>omega
 refine ⟨⟨h,hf⟩,by omega,by omega,by omega,λ_=>⟨λhc=>?_,λhc=>?_⟩⟩
 · have e:stW s L raw true m=(L ++ [raw]).drop 1:=by
    unfold stW
    rw [if_pos rfl,if_pos (of_decide_eq_true hc)]
   rw [e,List.take_of_length_le (by rw [List.length_drop]; exact Nat.le_refl _)]
   refine ⟨⟨?_,Int.le_refl _⟩,rfl,rfl⟩
   rw [List.length_append,List.length_singleton]
   omega
 · have e:stW s L raw true m=L ++ [raw]:=by
    unfold stW
    rw [if_pos rfl,if_neg (of_decide_eq_false hc)]
   rw [e]
   exact ⟨rfl,rfl⟩
theorem walk74lf (P80:Phi 80=some CFv)(P87:Phi 87=some DCn)(s:Se)(h:OkS s)(L:List Int)(m raw:Int)(hf:okF s L m):evC Phi (noI) rc74 ⟨initS [.agg s.cs,.agg [.lst [U 0] (u8s L),Ii m],U raw,.bool false],initM false []⟩ (kRet rv74 (.tup [.agg [.lst [U 0] (u8s (stW s L raw false m)),Ii (stM m false)],Ii 0]) false []):=by
 simp (maxSteps:=2000000) only [rc74,Se.cs,pk,un,rv74,Nat.reduceAdd,↓reduceIte,Nat.reduceMul,NL.k0 h.np,Nat.reduceEqDiff,Nat.reduceLeDiff,P80,CFv,NL.la h.np,seD_lit,WOk.l,wOf_l,P87,DCn,Qh0,↓Qi0,Nat.reduceLT,flatU,u8s_snoc,Int.reduceLE,Int.reduceToNat,u8s_drop,Zx0]
 have w:IntKind.i64.wrap (m+1) =m+1:=wr_in _ (by have:=hf.m0; omega) (by have:=hf.m3; omega)
 rw [w]
 have hle:=hf.le
 have hsa:s.sa≤5:=by rcases h.sa with e | e | e<;>omega
 refine ⟨⟨h,hf⟩,by omega,λhc=>?_,λhc=>?_⟩
 · have e:stW s L raw false m= []:=by
    unfold stW
    rw [if_neg (by decide),if_pos (of_decide_eq_true hc)]
   rw [e]
   exact ⟨rfl,rfl⟩
 · have e:stW s L raw false m=L:=by
    unfold stW
    rw [if_neg (by decide),if_neg (of_decide_eq_false hc)]
   rw [e]
   exact ⟨rfl,rfl⟩
theorem s82:Sound Tryz.prog 82 CVals:=soundG (by kernel_rfl) Qb0 Tryz.func82 rfl rc82_ok rv82_ok (by
 intro bs xs q g h hq
 split at h
 · rename_i z es
   cases h
   subst hq
   exact ⟨noI,λ_ _=>rfl,Nat.le_of_ble_eq_true rfl,walk82 z es⟩
 · cases h
 )
theorem s83:Sound Tryz.prog 83 CCmS:=Qc0 (by kernel_rfl) (Qa0 s14 (Qa0 s84 Qb0)) Tryz.func83 rfl rc83_ok rv83_ok (by
 intro xs q r cs' h hq
 split at h
 · rename_i a b zz cs
   cases h
   obtain ⟨rfl,hc,hp⟩:=hq
   generalize seD zz=s at *
   subst hc
   exact ⟨noI,rfl,Nat.le_of_ble_eq_true rfl,walk83 rfl rfl s hp a b⟩
 · cases h
 )
theorem s133:Sound Tryz.prog 133 CIns:=soundG (by kernel_rfl) (Qa0 s83 Qb0) Tryz.func133 rfl rc133_ok rv133_ok (by
 intro bs xs q g h hq
 split at h
 · split at h
   · rename_i n _ z es zz cs
     cases h
     obtain ⟨⟨rfl,he⟩,⟨rfl,hc,hp⟩,hn,h1,h2⟩:=hq
     generalize seD zz=s at *
     subst hc
     generalize decU es=L at *
     subst he
     rw [u8s_len] at hn
     subst hn
     exact ⟨I133 s L,λ_ _=>rfl,Nat.le_of_ble_eq_true rfl,walk133 rfl s hp L (by omega) (by omega)⟩
   · cases h
 · cases h
 )
theorem s124:Sound Tryz.prog 124 CPdq:=soundG (by kernel_rfl) (Qa0 s133 Qb0) Tryz.func124 rfl rc124_ok rv124_ok (by
 intro bs xs q g h hq
 split at h
 · split at h
   · rename_i n lim _ z es zz cs
     cases h
     obtain ⟨⟨rfl,he⟩,⟨rfl,hc,hp⟩,hn,h1,h2⟩:=hq
     generalize seD zz=s at *
     subst hc
     generalize decU es=L at *
     subst he
     rw [u8s_len] at hn
     subst hn
     exact ⟨I124 s L lim,λ_ _=>rfl,Nat.le_of_ble_eq_true rfl,walk124 rfl s hp L (by omega) (by omega) lim (decide_eq_true (by rw [wr_in _ (by omega) (by omega)]; omega))⟩
   · cases h
 · cases h
 )
theorem s142:Sound Tryz.prog 142 CLn:=Qc0 (by kernel_rfl) Qb0 Tryz.func142 rfl rc142_ok rv142_ok (by
 intro xs q r cs' h hq
 split at h
 · rename_i x
   cases h
   rcases hq with rfl | rfl | rfl
   · exact ⟨noI,rfl,Nat.le_of_ble_eq_true rfl,walk142_1⟩
   · exact ⟨noI,rfl,Nat.le_of_ble_eq_true rfl,walk142_3⟩
   · exact ⟨noI,rfl,Nat.le_of_ble_eq_true rfl,walk142_5⟩
 · cases h
 )
theorem s125:Sound Tryz.prog 125 CLn:=Qc0 (by kernel_rfl) (Qa0 s142 Qb0) Tryz.func125 rfl rc125_ok rv125_ok (by
 intro xs q r cs' h hq
 split at h
 · rename_i x
   cases h
   exact ⟨noI,rfl,Nat.le_of_ble_eq_true rfl,walk125 rfl x hq⟩
 · cases h
 )
theorem s107:Sound Tryz.prog 107 CSf:=soundG (by kernel_rfl) (Qa0 s125 (Qa0 s124 Qb0)) Tryz.func107 rfl rc107_ok rv107_ok (by
 intro bs xs q g h hq
 split at h
 · split at h
   · rename_i z es zz cs
     cases h
     obtain ⟨⟨rfl,he⟩,⟨rfl,hc,hp⟩,hl⟩:=hq
     generalize seD zz=s at *
     subst hc
     generalize decU es=L at *
     subst he
     rw [u8s_len] at hl
     exact ⟨noI,λ_ _=>rfl,Nat.le_of_ble_eq_true rfl,walk107 rfl rfl s hp L hl⟩
   · cases h
 · cases h
 )
theorem s106:Sound Tryz.prog 106 CCol:=soundG (by kernel_rfl) (Qa0 s123 Qb0) Tryz.func106 rfl rc106_ok rv106_ok (by
 intro bs xs q g h hq
 split at h
 · split at h
   · rename_i z0 es
     cases h
     obtain ⟨he,h0,hl⟩:=hq
     generalize decU es=L at *
     subst he
     exact ⟨noI,λ_ _=>rfl,Nat.le_of_ble_eq_true rfl,walk106 rfl z0 L h0 hl⟩
   · cases h
 · cases h
 )
theorem s81:Sound Tryz.prog 81 CSd:=soundG (by kernel_rfl) (Qa0 s106 (Qa0 s107 Qb0)) Tryz.func81 rfl rc81_ok rv81_ok (by
 intro bs xs q g h hq
 split at h
 · split at h
   · rename_i z0 z es zz cs
     cases h
     obtain ⟨⟨rfl,he⟩,⟨rfl,hc,hp⟩,hl⟩:=hq
     generalize seD zz=s at *
     subst hc
     generalize decU es=L at *
     subst he
     rw [u8s_len] at hl
     exact ⟨noI,λ_ _=>rfl,Nat.le_of_ble_eq_true rfl,walk81 rfl rfl s hp z0 L hl⟩
   · cases h
 · cases h
 )
theorem s80:Sound Tryz.prog 80 CFv:=Qc0 (by kernel_rfl) (Qa0 s68 Qb0) Tryz.func80 rfl rc80_ok rv80_ok (by
 intro xs q r cs' h hq
 split at h
 · rename_i cs w m
   cases h
   obtain ⟨he,ho,hw,hf⟩:=hq
   generalize seD cs=s at *
   subst he
   rcases hw with rfl | hw
   · exact ⟨noI,rfl,Nat.le_of_ble_eq_true rfl,walk80n rfl s ho [] m hf rfl⟩
   · rw [hw]
     generalize wOf w=L at *
     exact ⟨noI,rfl,Nat.le_of_ble_eq_true rfl,walk80l rfl s ho L m hf⟩
 · cases h
 )
theorem s69:Sound Tryz.prog 69 CBy:=Qc0 (by kernel_rfl) (Qa0 s14 Qb0) Tryz.func69 rfl rc69_ok rv69_ok (by
 intro xs q r cs' h hq
 split at h
 · rename_i cs i raw
   cases h
   obtain ⟨he,hp,h0,h1⟩:=hq
   generalize seD cs=s at *
   subst he
   obtain rfl | rfl | rfl | rfl | rfl | rfl:i=0∨i=1∨i=2∨i=3∨i=4∨i=5:=by omega
   · exact ⟨noI,rfl,Nat.le_of_ble_eq_true rfl,walk69_0 rfl s hp raw⟩
   · exact ⟨noI,rfl,Nat.le_of_ble_eq_true rfl,walk69_1 rfl s hp raw⟩
   · exact ⟨noI,rfl,Nat.le_of_ble_eq_true rfl,walk69_2 rfl s hp raw⟩
   · exact ⟨noI,rfl,Nat.le_of_ble_eq_true rfl,walk69_3 rfl s hp raw⟩
   · exact ⟨noI,rfl,Nat.le_of_ble_eq_true rfl,walk69_4 rfl s hp raw⟩
   · exact ⟨noI,rfl,Nat.le_of_ble_eq_true rfl,walk69_5 rfl s hp raw⟩
 · cases h
 )
theorem s77:Sound Tryz.prog 77 CThr:=Qc0 (by kernel_rfl) Qb0 Tryz.func77 rfl rc77_ok rv77_ok (by
 intro xs q r cs' h hq
 split at h
 · rename_i ty nu i a raw lim
   cases h
   obtain ⟨h0,h1⟩:=hq
   obtain rfl | rfl | rfl | rfl | rfl | rfl:i=0∨i=1∨i=2∨i=3∨i=4∨i=5:=by omega
   · exact ⟨noI,rfl,Nat.le_of_ble_eq_true rfl,walk77_0 ty nu raw lim a⟩
   · exact ⟨noI,rfl,Nat.le_of_ble_eq_true rfl,walk77_1 ty nu raw lim a⟩
   · exact ⟨noI,rfl,Nat.le_of_ble_eq_true rfl,walk77_2 ty nu raw lim a⟩
   · exact ⟨noI,rfl,Nat.le_of_ble_eq_true rfl,walk77_3 ty nu raw lim a⟩
   · exact ⟨noI,rfl,Nat.le_of_ble_eq_true rfl,walk77_4 ty nu raw lim a⟩
   · exact ⟨noI,rfl,Nat.le_of_ble_eq_true rfl,walk77_5 ty nu raw lim a⟩
 · cases h
 )
theorem s30:Sound Tryz.prog 30 CNx:=Qc0 (by kernel_rfl) (Qa0 s69 Qb0) Tryz.func30 rfl rc30_ok rv30_ok (by
 intro xs q r cs' h hq
 split at h
 · rename_i cs st raw
   cases h
   obtain ⟨he,hp⟩:=hq
   generalize seD cs=s at *
   subst he
   exact ⟨I30 s st raw,rfl,Nat.le_of_ble_eq_true rfl,walk30 rfl s hp st raw⟩
 · cases h
 )
theorem s10:Sound Tryz.prog 10 CRch:=Qc0 (by kernel_rfl) (Qa0 s29 (Qa0 s30 Qb0)) Tryz.func10 rfl rc10_ok rv10_ok (by
 intro xs q r cs' h hq
 split at h
 · rename_i cs raw
   cases h
   obtain ⟨he,h⟩:=hq
   generalize seD cs=s at *
   subst he
   exact ⟨noI,rfl,Nat.le_of_ble_eq_true rfl,walk10 rfl rfl s h raw⟩
 · cases h
 )
theorem s75:Sound Tryz.prog 75 CTs:=Qc0 (by kernel_rfl) (Qa0 s29 (Qa0 s30 Qb0)) Tryz.func75 rfl rc75_ok rv75_ok (by
 intro xs q r cs' h hq
 split at h
 · rename_i cs st raw
   cases h
   obtain ⟨he,h,ha⟩:=hq
   generalize seD cs=s at *
   subst he
   exact ⟨I75 s st (nxt s st raw),rfl,Nat.le_of_ble_eq_true rfl,walk75 rfl rfl s h st raw ha⟩
 · cases h
 )
theorem s41:Sound Tryz.prog 41 CEvs:=Qc0 (by kernel_rfl) (Qa0 s77 Qb0) Tryz.func41 rfl rc41_ok rv41_ok (by
 intro xs q r cs' h hq
 split at h
 · rename_i cs z es raw
   cases h
   obtain ⟨hc,hp,hd,⟨rfl,he⟩,hg⟩:=hq
   generalize seD cs=s at *
   subst hc
   generalize decG es=l at *
   subst he
   exact ⟨I41 s raw l,rfl,Nat.le_of_ble_eq_true rfl,walk41l rfl s hp hd raw l hg⟩
 · rename_i cs raw
   cases h
   obtain ⟨hc,hp⟩:=hq
   generalize seD cs=s at *
   subst hc
   exact ⟨I41n s raw,rfl,Nat.le_of_ble_eq_true rfl,walk41n rfl s hp raw⟩
 · cases h
 )
theorem s43:Sound Tryz.prog 43 CRd:=Qc0 (by kernel_rfl) (Qa0 s80 (Qa0 s81 (Qa0 s82 Qb0))) Tryz.func43 rfl rc43_ok rv43_ok (by
 intro xs q r cs' h hq
 split at h
 · rename_i cs w m
   cases h
   obtain ⟨hc,ho,hw,hf,hb⟩:=hq
   generalize seD cs=s at *
   subst hc
   rcases hw with rfl | hw
   · exact ⟨noI,rfl,Nat.le_of_ble_eq_true rfl,walk43n rfl s ho [] m hf rfl⟩
   · rw [hw,wOf_l]
     generalize wOf w=L at *
     exact ⟨noI,rfl,Nat.le_of_ble_eq_true rfl,walk43l rfl rfl rfl s ho L m hf hb⟩
 · cases h
 )
theorem s87n:Sound Tryz.prog 87 DCn:=Qy0 (by kernel_rfl) Qb0 Tryz.func87 rfl rc87_ok rv87_ok (by
 intro xs q g h hq
 split at h
 · rename_i zz es
   cases h
   obtain ⟨⟨rfl,he⟩,hl⟩:=hq
   generalize decU es=L at *
   subst he
   exact ⟨noI,Nat.le_of_ble_eq_true rfl,walk87 L (by rwa [u8s_len] at hl)⟩
 · cases h
   exact ⟨noI,Nat.le_of_ble_eq_true rfl,walk87n⟩
 · cases h
 )
theorem s74:Sound Tryz.prog 74 CSt:=Qc0 (by kernel_rfl) (Qa0 s80 (Qa0 s87n Qb0)) Tryz.func74 rfl rc74_ok rv74_ok (by
 intro xs q r cs' h hq
 split at h
 · rename_i cs w m raw ok
   cases h
   obtain ⟨hc,ho,hw,hf⟩:=hq
   generalize seD cs=s at *
   subst hc
   rcases hw with rfl | hw
   · cases ok
     · exact ⟨noI,rfl,Nat.le_of_ble_eq_true rfl,walk74nf rfl rfl s ho [] m raw hf rfl⟩
     · exact ⟨noI,rfl,Nat.le_of_ble_eq_true rfl,walk74nt rfl rfl s ho [] m raw hf rfl⟩
   · rw [hw,wOf_l]
     generalize wOf w=L at *
     cases ok
     · exact ⟨noI,rfl,Nat.le_of_ble_eq_true rfl,walk74lf rfl rfl s ho L m raw hf⟩
     · exact ⟨noI,rfl,Nat.le_of_ble_eq_true rfl,walk74lt rfl rfl s ho L m raw hf⟩
 · cases h
 )
theorem w01:(IntKind.i64.wrap (0 - 1)).toNat=0:=by decide
def CMck:Ctr:= .mk false λ_ xs=>match xs with
 | [.lst z [cs]]=>some (z= [.int .u8 0,.int .u8 0,.int .u8 0,.str [],.int .u8 0,.int .u8 0,.bool false,.int .i64 0,.bool false,.int .i64 0,.int .i64 0,.int .i64 0,.int .i64 0,.nil,.int .u8 0,.int .u8 0,.int .u8 0,.int .u8 0,.int .u8 0,.int .u8 0,.int .u8 0,.int .u8 0,.int .u8 0,.int .u16 0,.int .u16 0,.int .u16 0,.bool false,.int .i64 0]∧cs=(seD cs).cs∧OkS (seD cs),.int .i64 0,[])
 | _=>none
def DClS:Ctr:= .ext false Unit λ_ xs=>match xs with
 | [.lst z [cs]]=>some (z= [.int .u8 0,.int .u8 0,.int .u8 0,.str [],.int .u8 0,.int .u8 0,.bool false,.int .i64 0,.bool false,.int .i64 0,.int .i64 0,.int .i64 0,.int .i64 0,.nil,.int .u8 0,.int .u8 0,.int .u8 0,.int .u8 0,.int .u8 0,.int .u8 0,.int .u8 0,.int .u8 0,.int .u8 0,.int .u16 0,.int .u16 0,.int .u16 0,.bool false,.int .i64 0]∧cs=(seD cs).cs∧NL (seD cs).pt,λ_=>(True,.fr 0 36 [.int .u8 0,.int .u8 0,.int .u8 0,.str [],.int .u8 0,.int .u8 0,.bool false,.int .i64 0,.bool false,.int .i64 0,.int .i64 0,.int .i64 0,.int .i64 0,.nil,.int .u8 0,.int .u8 0,.int .u8 0,.int .u8 0,.int .u8 0,.int .u8 0,.int .u8 0,.int .u8 0,.int .u8 0,.int .u16 0,.int .u16 0,.int .u16 0,.bool false,.int .i64 0] [cs],[]))
 | _=>none
def CClS:Ctr:= .own 36 [.int .u8 0,.int .u8 0,.int .u8 0,.str [],.int .u8 0,.int .u8 0,.bool false,.int .i64 0,.bool false,.int .i64 0,.int .i64 0,.int .i64 0,.int .i64 0,.nil,.int .u8 0,.int .u8 0,.int .u8 0,.int .u8 0,.int .u8 0,.int .u8 0,.int .u8 0,.int .u8 0,.int .u8 0,.int .u16 0,.int .u16 0,.int .u16 0,.bool false,.int .i64 0] λxs=>match xs with
 | [.lst z [cs]]=>some (z= [.int .u8 0,.int .u8 0,.int .u8 0,.str [],.int .u8 0,.int .u8 0,.bool false,.int .i64 0,.bool false,.int .i64 0,.int .i64 0,.int .i64 0,.int .i64 0,.nil,.int .u8 0,.int .u8 0,.int .u8 0,.int .u8 0,.int .u8 0,.int .u8 0,.int .u8 0,.int .u8 0,.int .u8 0,.int .u16 0,.int .u16 0,.int .u16 0,.bool false,.int .i64 0]∧cs=(seD cs).cs∧NL (seD cs).pt,[cs])
 | _=>none
def PtOk (x:AV):Prop:=x= .nil∨∃ l,x= .lst [.int .u8 0,.int .i64 0] (pts l)∧l.length≤12
theorem OkS.po {s:Se}(h:OkS s):PtOk s.pt:=by
 rcases h.cv with ⟨_,_,_,_,_,h⟩ | ⟨_,_,_,_,_,l,h,ht⟩
 · exact .inl h
 · exact .inr ⟨l,h,ht.2.1⟩
def CClP:Ctr:= .mk false λ_ xs=>match xs with
 | [x]=>some (PtOk x,x,[])
 | _=>none
def CFn1:Ctr:= .mk false λ_ xs=>match xs with
 | [.agg cs,.ep [.int .u8 _] [[.int .u8 n]] 0 0]=>some (cs=(seD cs).cs∧NL (seD cs).pt,.bool (decide ((seD cs).nu=n)),[])
 | _=>none
def CIxS:Ctr:= .gr Unit [] true λbs xs=>match xs with
 | [.lst z [cs],.ap 32 0 0 0]=>(match bs with
   | [(32,.clo 79 [.int .u8 n] [[.int .u8 n']] 0 0)]=>some (z= [.int .u8 0,.int .u8 0,.int .u8 0,.str [],.int .u8 0,.int .u8 0,.bool false,.int .i64 0,.bool false,.int .i64 0,.int .i64 0,.int .i64 0,.int .i64 0,.nil,.int .u8 0,.int .u8 0,.int .u8 0,.int .u8 0,.int .u8 0,.int .u8 0,.int .u8 0,.int .u8 0,.int .u8 0,.int .u16 0,.int .u16 0,.int .u16 0,.bool false,.int .i64 0]∧cs=(seD cs).cs∧NL (seD cs).pt∧n=(seD cs).nu∧n'=n,λ_=>(True,.int .i64 0,[(32,.clo 79 [.int .u8 n] [[.int .u8 n]] 0 0)]))
   | _=>none)
 | _=>none
def CFnd:Ctr:= .mk false λ_ xs=>match xs with
 | [.ep zz [[.lst z [cs],a,b,c]] 0 0,.int .u8 n]=>some (zz= [.lst z [cs],a,b,c]∧z= [.int .u8 0,.int .u8 0,.int .u8 0,.str [],.int .u8 0,.int .u8 0,.bool false,.int .i64 0,.bool false,.int .i64 0,.int .i64 0,.int .i64 0,.int .i64 0,.nil,.int .u8 0,.int .u8 0,.int .u8 0,.int .u8 0,.int .u8 0,.int .u8 0,.int .u8 0,.int .u8 0,.int .u8 0,.int .u16 0,.int .u16 0,.int .u16 0,.bool false,.int .i64 0]∧cs=(seD cs).cs∧NL (seD cs).pt∧n=(seD cs).nu,.int .i64 0,[])
 | _=>none
def CMsc:Ctr:= .mk false λ_ xs=>match xs with
 | [.ep zz [[.lst z [cs],a,b,c]] 0 0,.nil]=>some (zz= [.lst z [cs],a,b,c]∧z= [.int .u8 0,.int .u8 0,.int .u8 0,.str [],.int .u8 0,.int .u8 0,.bool false,.int .i64 0,.bool false,.int .i64 0,.int .i64 0,.int .i64 0,.int .i64 0,.nil,.int .u8 0,.int .u8 0,.int .u8 0,.int .u8 0,.int .u8 0,.int .u8 0,.int .u8 0,.int .u8 0,.int .u8 0,.int .u16 0,.int .u16 0,.int .u16 0,.bool false,.int .i64 0]∧cs=(seD cs).cs,.int .i64 0,[])
 | [.ep zz [[.lst z [cs],a,b,c]] 0 0,.lst zm [[.int .u8 n,.bool true,.int .u8 _,.int .u16 x]]]=>some (zz= [.lst z [cs],a,b,c]∧zm= [.int .u8 0,.bool false,.int .u8 0,.int .u16 0]∧x=0∧z= [.int .u8 0,.int .u8 0,.int .u8 0,.str [],.int .u8 0,.int .u8 0,.bool false,.int .i64 0,.bool false,.int .i64 0,.int .i64 0,.int .i64 0,.int .i64 0,.nil,.int .u8 0,.int .u8 0,.int .u8 0,.int .u8 0,.int .u8 0,.int .u8 0,.int .u8 0,.int .u8 0,.int .u8 0,.int .u16 0,.int .u16 0,.int .u16 0,.bool false,.int .i64 0]∧cs=(seD cs).cs∧OkS (seD cs)∧n=(seD cs).nu,.int .i64 0,[])
 | _=>none
def CSc1:Ctr:= .mk false λ_ xs=>match xs with
 | [.agg [.int .u8 n,.bool _,.int .u8 _,.int .u16 _],.ep zz [cs] 0 0]=>some (zz=cs∧cs=(seD cs).cs∧NL (seD cs).pt,.bool (decide (n=(seD cs).nu)),[])
 | _=>none
def CIxM:Ctr:= .gr Unit [] true λbs xs=>match xs with
 | [.lst zm [[.int .u8 n,.bool _,.int .u8 _,.int .u16 _]],.ap 32 0 0 0]=>(match bs with
   | [(32,.clo 39 zz [cs] 0 0)]=>some (zm= [.int .u8 0,.bool false,.int .u8 0,.int .u16 0]∧zz=cs∧cs=(seD cs).cs∧NL (seD cs).pt∧n=(seD cs).nu,λ_=>(True,.int .i64 0,[]))
   | _=>none)
 | [.nil,.ap 32 0 0 0]=>(match bs with
   | [(32,.clo 39 zz [cs] 0 0)]=>some (True,λ_=>(True,.int .i64 (-1),[]))
   | _=>none)
 | _=>none
def grM (s:Se)(w:AV)(m st:Int):List (Nat×Blk):=[(0,.cells [.vw 32 0 0 0,.nil,.vw 33 0 0 0,.vw 34 0 0 0]),(32,.buf 36 [.int .u8 0,.int .u8 0,.int .u8 0,.str [],.int .u8 0,.int .u8 0,.bool false,.int .i64 0,.bool false,.int .i64 0,.int .i64 0,.int .i64 0,.int .i64 0,.nil,.int .u8 0,.int .u8 0,.int .u8 0,.int .u8 0,.int .u8 0,.int .u8 0,.int .u8 0,.int .u8 0,.int .u8 0,.int .u16 0,.int .u16 0,.int .u16 0,.bool false,.int .i64 0] [s.cs]),(33,.buf 114 [.nil,.int .i64 0] [[w,.int .i64 m]]),(34,.buf 34 [.int .u16 0] [[.int .u16 st]])]
def gsM (bs:List (Nat×Blk)):Se:=match bs with
 | [_,(32,.buf _ _ [cs]),_,_]=>seD cs
 | _=>se0
def gwM (bs:List (Nat×Blk)):AV:=match bs with
 | [_,_,(33,.buf _ _ [[w,_]]),_]=>w
 | _=> .nil
def gmM (bs:List (Nat×Blk)):Int:=match bs with
 | [_,_,(33,.buf _ _ [[_,.int _ m]]),_]=>m
 | _=>0
def gtM (bs:List (Nat×Blk)):Int:=match bs with
 | [_,_,_,(34,.buf _ _ [[.int _ st]])]=>st
 | _=>0
def byt (L:List Int):AV:= .lst [.int .u8 0] (u8s L)
noncomputable def mT (s:Se)(V:List Int)(st:Int):Int:=nxt s (IntKind.u8.wrap st) (rdV s V)
noncomputable def mS (s:Se)(V:List Int)(st:Int):Int:=if rdK s V then IntKind.u16.wrap (mT s V st) else st
noncomputable def mC (s:Se)(V:List Int)(st:Int):List Cg:=if rdK s V then chO (IntKind.u8.wrap st) (mT s V st) 6 else []
structure okM (s:Se)(w:AV)(m st:Int):Prop where
 hs:OkS s
 hw:WOk w
 hf:okF s (wOf w) m
 hb:Byt (wOf w)
 ht:bitsI .andNot .u8 (IntKind.u8.wrap st) s.mk'=0
noncomputable def CStp:Ctr:= .gr Unit [] true λbs xs=>match xs with
 | [.ptr 0 0,.int .i64 0,.agg [.int .u8 _,.bool ok,.int .u8 raw,.int .u16 _]]=>some (bs=grM (gsM bs) (gwM bs) (gmM bs) (gtM bs)∧okM (gsM bs) (gwM bs) (gmM bs) (gtM bs)∧0≤raw∧raw≤255,
  λ_=>(True,.tup [.lst [.int .i64 0,.bool false] (cgs (mC (gsM bs) (stW (gsM bs) (wOf (gwM bs)) raw ok (gmM bs)) (gtM bs))),.int .u8 (rdV (gsM bs) (stW (gsM bs) (wOf (gwM bs)) raw ok (gmM bs)))],
   grM (gsM bs) (byt (stW (gsM bs) (wOf (gwM bs)) raw ok (gmM bs))) (stM (gmM bs) ok) (mS (gsM bs) (stW (gsM bs) (wOf (gwM bs)) raw ok (gmM bs)) (gtM bs))))
 | _=>none
noncomputable def scE (s:Se)(V:List Int)(st:Int):List Ev:=evL s (rdV s V) (mC s V st)
noncomputable def CScn:Ctr:= .gr Unit [] true λbs xs=>match xs with
 | [.ptr 0 0,.lst zm [[.int .u8 n,.bool true,.int .u8 raw,.int .u16 x]],.nil,.bool _]=>some (bs=grM (gsM bs) (gwM bs) (gmM bs) (gtM bs)∧zm= [.int .u8 0,.bool false,.int .u8 0,.int .u16 0]∧x=0∧n=(gsM bs).nu∧(gsM bs).ho=false∧okM (gsM bs) (gwM bs) (gmM bs) (gtM bs)∧0≤raw∧raw≤255,
  λ_=>(True,.tup [.lst [.int .u16 0,.int .u32 0,.int .u16 0,.int .u8 0,.int .u8 0,.int .u8 0,.bool false,.int .u8 0,.int .u8 0,.int .u8 0] (evs (scE (gsM bs) (stW (gsM bs) (wOf (gwM bs)) raw true (gmM bs)) (gtM bs))),.int .i64 0],
   grM (gsM bs) (byt (stW (gsM bs) (wOf (gwM bs)) raw true (gmM bs))) (stM (gmM bs) true) (mS (gsM bs) (stW (gsM bs) (wOf (gwM bs)) raw true (gmM bs)) (gtM bs))))
 | [.ptr 0 0,.nil,.nil,.bool _]=>some (bs=grM (gsM bs) (gwM bs) (gmM bs) (gtM bs)∧(gsM bs).ho=false∧okM (gsM bs) (gwM bs) (gmM bs) (gtM bs),
  λ_=>(True,.tup [.lst [.int .u16 0,.int .u32 0,.int .u16 0,.int .u8 0,.int .u8 0,.int .u8 0,.bool false,.int .u8 0,.int .u8 0,.int .u8 0] (evs (scE (gsM bs) (stW (gsM bs) (wOf (gwM bs)) 0 false (gmM bs)) (gtM bs))),.int .i64 0],
   grM (gsM bs) (byt (stW (gsM bs) (wOf (gwM bs)) 0 false (gmM bs))) (stM (gmM bs) false) (mS (gsM bs) (stW (gsM bs) (wOf (gwM bs)) 0 false (gmM bs)) (gtM bs))))
 | _=>none
noncomputable def CRdg:Ctr:= .mk false λ_ xs=>match xs with
 | [.ep zz [[.lst z [cs],a,.lst zf [[w,.int .i64 m]],b]] 0 0,.int .u8 n]=>some (zz= [.lst z [cs],a,.lst zf [[w,.int .i64 m]],b]∧z= [.int .u8 0,.int .u8 0,.int .u8 0,.str [],.int .u8 0,.int .u8 0,.bool false,.int .i64 0,.bool false,.int .i64 0,.int .i64 0,.int .i64 0,.int .i64 0,.nil,.int .u8 0,.int .u8 0,.int .u8 0,.int .u8 0,.int .u8 0,.int .u8 0,.int .u8 0,.int .u8 0,.int .u8 0,.int .u16 0,.int .u16 0,.int .u16 0,.bool false,.int .i64 0]∧zf= [.nil,.int .i64 0]∧cs=(seD cs).cs∧n=(seD cs).nu∧OkS (seD cs)∧WOk w∧okF (seD cs) (wOf w) m∧Byt (wOf w),.tup [.int .u8 (rdV (seD cs) (wOf w)),.bool (rdK (seD cs) (wOf w))],[])
 | _=>none
def CSta:Ctr:= .mk false λ_ xs=>match xs with
 | [.ep zz [[.lst z [cs],a,b,.lst zt [[.int .u16 st]]]] 0 0,.int .u8 n]=>some (zz= [.lst z [cs],a,b,.lst zt [[.int .u16 st]]]∧z= [.int .u8 0,.int .u8 0,.int .u8 0,.str [],.int .u8 0,.int .u8 0,.bool false,.int .i64 0,.bool false,.int .i64 0,.int .i64 0,.int .i64 0,.int .i64 0,.nil,.int .u8 0,.int .u8 0,.int .u8 0,.int .u8 0,.int .u8 0,.int .u8 0,.int .u8 0,.int .u8 0,.int .u8 0,.int .u16 0,.int .u16 0,.int .u16 0,.bool false,.int .i64 0]∧zt= [.int .u16 0]∧cs=(seD cs).cs∧n=(seD cs).nu∧NL (seD cs).pt,.tup [.int .u16 st,.bool true],[])
 | _=>none
theorem okF_st {s:Se} {L:List Int} {m raw:Int} {ok:Bool}(hs:OkS s)(h:okF s L m):okF s (stW s L raw ok m) (stM m ok):=by
 have h1:=h.le; have h2:=h.m0; have h3:=h.m3; have h4:=h.mz
 have hsa:=hs.sa
 cases ok
 · have e1:stM m false=min (m+1) 3:=if_neg (by decide)
   have e2:stW s L raw false m=if min (m+1) 3=3 then [] else L:=if_neg (by decide)
   rw [e1,e2]
   by_cases hm:min (m+1) 3=3
   · rw [if_pos hm,hm]
     exact ⟨by show (0:Int)≤s.sa; omega,by decide,by decide,.inr rfl⟩
   · rw [if_neg hm]
     exact ⟨h1,by omega,by omega,.inl (by omega)⟩
 · have e1:stM m true=0:=if_pos rfl
   have e2:stW s L raw true m=if s.sa < ((L ++ [raw]).length:Nat) then (L ++ [raw]).drop 1 else L ++ [raw]:=if_pos rfl
   rw [e1,e2]
   have hl:(L ++ [raw]).length=L.length+1:=by rw [List.length_append]; rfl
   refine ⟨?_,by decide,by decide,.inl (by decide)⟩
   split
   · rw [List.length_drop,hl]; omega
   · omega
theorem Byt_st {s:Se} {L:List Int} {m raw:Int} {ok:Bool}(h:Byt L)(hr:0≤raw∧raw≤255):Byt (stW s L raw ok m):=by
 have ha:Byt (L ++ [raw]):=by
  intro x hx
  rcases List.mem_append.1 hx with hx | hx
  · exact h x hx
  · rw [List.mem_singleton.1 hx]; exact hr
 unfold stW
 split
 · split
   · exact λx hx=>ha x (List.mem_of_mem_drop hx)
   · exact ha
 · split
   · exact λx hx=>(by cases hx)
   · exact h
theorem chO_ix (st to:Int):∀ k i,i < (chO st to k).length→0≤((chO st to k).getD i cg0).i∧((chO st to k).getD i cg0).i < k
 | 0,i,h=>absurd h (Nat.not_lt_zero i)
 | k + 1,i,h=>by
   have ih:=chO_ix st to k
   unfold chO at h ⊢
   split at h
   · rename_i hc
     rw [if_pos hc]
     rw [List.length_append,List.length_singleton] at h
     by_cases hi:i < (chO st to k).length
     · have:=ih i hi
       rw [List.getD_eq_getElem?_getD,List.getElem?_append_left hi,← List.getD_eq_getElem?_getD]
       omega
     · have e:i=(chO st to k).length:=by omega
       subst e
       rw [List.getD_eq_getElem?_getD,List.getElem?_append_right (Nat.le_refl _),Nat.sub_self]
       show 0≤(k:Int)∧(k:Int) < ((k+1:Nat):Int)
       omega
   · rename_i hc
     rw [if_neg hc]
     have:=ih i h
     omega
theorem okCg_mC (s:Se)(V:List Int)(st:Int):okCg (mC s V st):=by
 unfold mC
 split
 · exact ⟨chO_len _ _ 6,λi hi=>chO_ix _ _ 6 i hi⟩
 · exact ⟨Nat.zero_le _,λi hi=>absurd hi (Nat.not_lt_zero i)⟩
def S31a (s:Se)(p:Bool):SL:=⟨[(0,.lst zS [s.cs]),(8,.lst zS [s.cs]),(9,Ii 1),(10,Ii (cond p 1 0))],[]⟩
abbrev L31a (s:Se):LI:=⟨Bool,S31a s,λp=>cond p 0 1,λp q=>True⟩
theorem L31aS (s:Se):(L31a s).S=S31a s:=rfl
theorem L31aR (s:Se)(p q:Bool):(L31a s).R p q=(True):=rfl
def I31 (s:Se):Nat→LI:=λn=>L31a s
theorem I31_0 (s:Se):I31 s 0=L31a s:=rfl
theorem walk31 (P68:Phi 68=some CAn)(s:Se)(h:OkS s):evC Phi (I31 s) rc31 ⟨initS [.lst zS [s.cs]],initM false []⟩ (kRet rv31 (Ii 0) false []):=by
 simp (maxSteps:=2000000) only [rc31,Se.cs,pk,un,rv31,Nat.reduceEqDiff,↓reduceIte,Nat.reduceLeDiff,I31_0,L31aS,S31a,L31aR,Nat.reduceAdd,↓Bool.forall_bool,Bool.cond_false,Int.reduceLT,Int.reduceLE,Int.reduceToNat,Qf0,Nat.reduceMul,NL.k0 h.np,P68,CAn,NL.la h.np,seD_lit,w01,↓Bool.exists_bool,Nat.reduceLT,Bool.cond_true,Nat.reduceBEq]
 exact ⟨λhc=>absurd hc (by decide),λ_=> .inl ⟨rfl,by decide,h,λhc=>(by cases hc),.inr rfl⟩⟩
theorem walk33 (s:Se)(hp:NL s.pt):evC Phi (noI) rc33 ⟨initS [.lst zS [s.cs]],initM false []⟩ (kRetX rv33 false (λ(_ :Unit)=>(True,.fr 0 36 zS [s.cs],[]))):=by
 simp (maxSteps:=2000000) only [rc33,Se.cs,pk,un,rv33,Nat.reduceEqDiff,↓reduceIte,↓Qj0,Nat.reduceLT,Nat.reduceAdd,Nat.reduceMul,Nat.reduceLeDiff]
 exact λh=>absurd (show false=true from h) (by decide)
theorem walk35n  :evC Phi (noI) rc35 ⟨initS [.nil],initM false []⟩ (kRet rv35 .nil false []):=by
 simp (maxSteps:=2000000) only [rc35,pk,un,rv35,Nat.reduceEqDiff,↓reduceIte,Nat.reduceAdd,Nat.reduceMul,Nat.reduceLeDiff]
theorem walk35l (l:List Pt)(hl:(pts l).length≤1000):evC Phi (noI) rc35 ⟨initS [.lst [U 0,Ii 0] (pts l)],initM false []⟩ (kRet rv35 (.lst [U 0,Ii 0] (pts l)) false []):=by
 simp (maxSteps:=2000000) only [rc35,pk,un,rv35,Nat.reduceEqDiff,↓reduceIte,Nat.reduceAdd,Nat.reduceMul,Nat.reduceLeDiff,pts_len]
 rw [pts_len] at hl
 exact ⟨λh=>List.isEmpty_iff.1 h,by omega,by omega⟩
theorem walk79 (s:Se)(hp:NL s.pt)(n n':Int):evC Phi (noI) rc79 ⟨initS [.agg s.cs,.ep [U n'] [[U n]] 0 0],initM false []⟩ (kRet rv79 (.bool (decide (s.nu=n))) false []):=by
 simp (maxSteps:=2000000) only [rc79,Se.cs,pk,un,rv79,Nat.reduceAdd,↓reduceIte,Nat.reduceMul,NL.k0 hp,Nat.reduceEqDiff,Qf0]
def S78a (s:Se)(p:Bool):SL:=⟨[(0,.lst zS [s.cs]),(1,.ap 32 0 0 0),(7,Ii 1),(8,Ii (cond p 1 0))],[(32,.clo 79 [U s.nu] [[U s.nu]] 0 0)]⟩
abbrev L78a (s:Se):LI:=⟨Bool,S78a s,λp=>cond p 0 1,λp q=>q=false⟩
theorem L78aS (s:Se):(L78a s).S=S78a s:=rfl
theorem L78aR (s:Se)(p q:Bool):(L78a s).R p q=(q=false):=rfl
def I78 (s:Se):Nat→LI:=λn=>L78a s
theorem I78_0 (s:Se):I78 s 0=L78a s:=rfl
theorem walk78 (P79:Phi 79=some CFn1)(s:Se)(hp:NL s.pt):evC Phi (I78 s) rc78 ⟨initS [.lst zS [s.cs],.ap 32 0 0 0],lookM [(32,.clo 79 [.int .u8 s.nu] [[.int .u8 s.nu]] 0 0)]⟩ (kRetG rv78 (λ(_ :Unit)=>(True,.int .i64 0,[(32,.clo 79 [.int .u8 s.nu] [[.int .u8 s.nu]] 0 0)]))):=by
 simp (maxSteps:=2000000) only [rc78,Se.cs,rv78,pk,un,Nat.reduceEqDiff,↓reduceIte,Nat.reduceLeDiff,I78_0,L78aS,S78a,L78aR,Nat.reduceAdd,↓Qj0,↓Bool.forall_bool,Bool.cond_false,Int.reduceLT,Int.reduceLE,Int.reduceToNat,Qf0,fs_79,P79,CFn1,NL.la hp,seD_lit,↓Bool.exists_bool,Nat.reduceLT,Bool.cond_true]
 exact .inl ⟨rfl,by decide,hp⟩
theorem walk42 (P78:Phi 78=some CIxS)(s:Se)(hp:NL s.pt)(a b c:AV):evC Phi (noI) rc42 ⟨initS [.ep [.lst zS [s.cs],a,b,c] [[.lst zS [s.cs],a,b,c]] 0 0,U s.nu],initM false []⟩ (kRet rv42 (Ii 0) false []):=by
 simp (maxSteps:=2000000) only [rc42,Se.cs,pk,un,rv42,Nat.reduceMul,Nat.reduceAdd,Nat.reduceEqDiff,↓reduceIte,Nat.reduceLeDiff,Qf0,P78,CIxS,Nat.reduceLT,seD_lit,↓Qi0,Option.isSome_some]
 exact hp
def S36a (s:Se)(raw:Int)(a b c:AV)(p:Bool):SL:=⟨[(0,.ep [.lst zS [s.cs],a,b,c] [[.lst zS [s.cs],a,b,c]] 0 0),(1,.lst [U 0,.bool false,U 0,.int .u16 0] [[U s.nu,.bool true,U raw,.int .u16 0]]),(9,.lst [U 0,.bool false,U 0,.int .u16 0] [[U s.nu,.bool true,U raw,.int .u16 0]]),(10,Ii 1),(11,Ii (cond p 1 0))],[]⟩
abbrev L36a (s:Se)(raw:Int)(a b c:AV):LI:=⟨Bool,S36a s raw a b c,λp=>cond p 0 1,λp q=>True⟩
theorem L36aS (s:Se)(raw:Int)(a b c:AV):(L36a s raw a b c).S=S36a s raw a b c:=rfl
theorem L36aR (s:Se)(raw:Int)(a b c:AV)(p q:Bool):(L36a s raw a b c).R p q=(True):=rfl
def I36 (s:Se)(raw:Int)(a b c:AV):Nat→LI:=λn=>L36a s raw a b c
theorem I36_0 (s:Se)(raw:Int)(a b c:AV):I36 s raw a b c 0=L36a s raw a b c:=rfl
theorem walk36l (P42:Phi 42=some CFnd)(s:Se)(h:OkS s)(raw:Int)(a b c:AV):evC Phi (I36 s raw a b c) rc36 ⟨initS [.ep [.lst zS [s.cs],a,b,c] [[.lst zS [s.cs],a,b,c]] 0 0,.lst [U 0,.bool false,U 0,.int .u16 0] [[U s.nu,.bool true,U raw,.int .u16 0]]],initM false []⟩ (kRet rv36 (Ii 0) false []):=by
 simp (maxSteps:=2000000) only [rc36,Se.cs,pk,un,rv36,Nat.reduceEqDiff,↓reduceIte,Nat.reduceLeDiff,I36_0,L36aS,S36a,L36aR,Nat.reduceAdd,↓Bool.forall_bool,Bool.cond_false,Int.reduceLT,Int.reduceLE,Int.reduceToNat,Qf0,Nat.reduceMul,w01,P42,CFnd,seD_lit,NL.k0 h.np,↓Bool.exists_bool,Nat.reduceLT,Bool.cond_true,Nat.reduceBEq]
 rw [h.di,h.st]
 exact .inl ⟨rfl,by decide,λhc=>(by cases hc),h.np,by decide,λhc=>(by cases hc),λ_=>⟨λhc=>absurd hc (by decide),λ_=> .inr rfl⟩⟩
def S36na (s:Se)(a b c:AV)(p:Unit):SL:=⟨[(0,.ep [.lst zS [s.cs],a,b,c] [[.lst zS [s.cs],a,b,c]] 0 0),(1,.nil),(9,.nil),(10,Ii 0),(11,Ii 0)],[]⟩
abbrev L36na (s:Se)(a b c:AV):LI:=⟨Unit,S36na s a b c,λp=>0,λp q=>True⟩
theorem L36naS (s:Se)(a b c:AV):(L36na s a b c).S=S36na s a b c:=rfl
theorem L36naR (s:Se)(a b c:AV)(p q:Unit):(L36na s a b c).R p q=(True):=rfl
def I36n (s:Se)(a b c:AV):Nat→LI:=λn=>L36na s a b c
theorem I36n_0 (s:Se)(a b c:AV):I36n s a b c 0=L36na s a b c:=rfl
theorem walk36n (P42:Phi 42=some CFnd)(s:Se)(a b c:AV):evC Phi (I36n s a b c) rc36 ⟨initS [.ep [.lst zS [s.cs],a,b,c] [[.lst zS [s.cs],a,b,c]] 0 0,.nil],initM false []⟩ (kRet rv36 (Ii 0) false []):=by
 simp (maxSteps:=2000000) only [rc36,Se.cs,pk,un,rv36,Nat.reduceEqDiff,↓reduceIte,I36n_0,L36naS,S36na,L36naR,Int.reduceLT,exists_const]
theorem walk39 (s:Se)(hp:NL s.pt)(n raw x:Int)(ok:Bool):evC Phi (noI) rc39 ⟨initS [.agg [U n,.bool ok,U raw,.int .u16 x],.ep s.cs [s.cs] 0 0],initM false []⟩ (kRet rv39 (.bool (decide (n=s.nu))) false []):=by
 simp (maxSteps:=2000000) only [rc39,Se.cs,pk,un,rv39,Nat.reduceAdd,↓reduceIte,Nat.reduceMul,Nat.reduceEqDiff,Qf0]
def S38a (s:Se)(ok:Bool)(raw x:Int)(p:Bool):SL:=⟨[(0,.lst [U 0,.bool false,U 0,.int .u16 0] [[U s.nu,.bool ok,U raw,.int .u16 x]]),(1,.ap 32 0 0 0),(7,Ii 1),(8,Ii (cond p 1 0))],[(32,.clo 39 s.cs [s.cs] 0 0)]⟩
abbrev L38a (s:Se)(ok:Bool)(raw x:Int):LI:=⟨Bool,S38a s ok raw x,λp=>cond p 0 1,λp q=>q=false⟩
theorem L38aS (s:Se)(ok:Bool)(raw x:Int):(L38a s ok raw x).S=S38a s ok raw x:=rfl
theorem L38aR (s:Se)(ok:Bool)(raw x:Int)(p q:Bool):(L38a s ok raw x).R p q=(q=false):=rfl
def I38 (s:Se)(ok:Bool)(raw x:Int):Nat→LI:=λn=>L38a s ok raw x
theorem I38_0 (s:Se)(ok:Bool)(raw x:Int):I38 s ok raw x 0=L38a s ok raw x:=rfl
theorem walk38l (P39:Phi 39=some CSc1)(s:Se)(hp:NL s.pt)(raw x:Int)(ok:Bool):evC Phi (I38 s ok raw x) rc38 ⟨initS [.lst [.int .u8 0,.bool false,.int .u8 0,.int .u16 0] [[.int .u8 s.nu,.bool ok,.int .u8 raw,.int .u16 x]],.ap 32 0 0 0],lookM [(32,.clo 39 s.cs [s.cs] 0 0)]⟩ (kRetG rv38 (λ(_ :Unit)=>(True,.int .i64 0,[]))):=by
 simp (maxSteps:=2000000) only [rc38,Se.cs,rv38,pk,un,Nat.reduceEqDiff,↓reduceIte,Nat.reduceLeDiff,I38_0,L38aS,S38a,L38aR,Nat.reduceAdd,↓Qj0,↓Bool.forall_bool,Bool.cond_false,Int.reduceLT,Int.reduceLE,Int.reduceToNat,Qf0,fs_39,P39,CSc1,seD_lit,↓Bool.exists_bool,Nat.reduceLT,Bool.cond_true]
 exact .inl ⟨rfl,by decide,hp⟩
def S38na (z:List AV)(es:List (List AV))(p:Unit):SL:=⟨[(0,.nil),(1,.ap 32 0 0 0),(7,Ii 0),(8,Ii 0)],[(32,.clo 39 z es 0 0)]⟩
abbrev L38na (z:List AV)(es:List (List AV)):LI:=⟨Unit,S38na z es,λp=>0,λp q=>True⟩
theorem L38naS (z:List AV)(es:List (List AV)):(L38na z es).S=S38na z es:=rfl
theorem L38naR (z:List AV)(es:List (List AV))(p q:Unit):(L38na z es).R p q=(True):=rfl
def I38n (z:List AV)(es:List (List AV)):Nat→LI:=λn=>L38na z es
theorem I38n_0 (z:List AV)(es:List (List AV)):I38n z es 0=L38na z es:=rfl
theorem walk38n (P39:Phi 39=some CSc1)(z:List AV)(es:List (List AV)):evC Phi (I38n z es) rc38 ⟨initS [.nil,.ap 32 0 0 0],lookM [(32,.clo 39 z es 0 0)]⟩ (kRetG rv38 (λ(_ :Unit)=>(True,.int .i64 (-1),[]))):=by
 simp (maxSteps:=2000000) only [rc38,rv38,pk,un,Nat.reduceEqDiff,↓reduceIte,I38n_0,L38naS,S38na,L38naR,Int.reduceLT,↓Qj0,exists_const]
theorem walk13 (P42:Phi 42=some CFnd)(P43:Phi 43=some CRd)(s:Se)(h:OkS s)(w a b:AV)(m:Int)(hw:WOk w)(hf:okF s (wOf w) m)(hb:Byt (wOf w)):evC Phi (noI) rc13 ⟨initS [.ep [.lst zS [s.cs],a,.lst [.nil,Ii 0] [[w,Ii m]],b] [[.lst zS [s.cs],a,.lst [.nil,Ii 0] [[w,Ii m]],b]] 0 0,U s.nu],initM false []⟩ (kRet rv13 (.tup [U (rdV s (wOf w)),.bool (rdK s (wOf w))]) false []):=by
 simp (maxSteps:=2000000) only [rc13,Se.cs,pk,un,rv13,Nat.reduceEqDiff,↓reduceIte,P42,CFnd,seD_lit,Int.reduceLT,Qf0,Nat.reduceAdd,Int.reduceLE,Nat.reduceLeDiff,Int.reduceToNat,Bool.cond_false,Nat.reduceMul,P43,CRd,NL.la h.np,NL.la hw.np,Nat.reduceBEq]
 exact ⟨h.np,by decide,λhd=>absurd (hd.symm.trans h.di) (by decide),λ_=>⟨by decide,by decide,h,hw,hf,hb⟩⟩
theorem walk15 (P42:Phi 42=some CFnd)(s:Se)(hp:NL s.pt)(a b:AV)(st:Int):evC Phi (noI) rc15 ⟨initS [.ep [.lst zS [s.cs],a,b,.lst [.int .u16 0] [[.int .u16 st]]] [[.lst zS [s.cs],a,b,.lst [.int .u16 0] [[.int .u16 st]]]] 0 0,U s.nu],initM false []⟩ (kRet rv15 (.tup [.int .u16 st,.bool true]) false []):=by
 simp (maxSteps:=2000000) only [rc15,Se.cs,pk,un,rv15,Nat.reduceEqDiff,↓reduceIte,P42,CFnd,seD_lit,Int.reduceLT,Qf0,Int.reduceLE,Nat.reduceLeDiff,Int.reduceToNat]
 exact ⟨hp,by decide⟩
theorem s31:Sound Tryz.prog 31 CMck:=Qc0 (by kernel_rfl) (Qa0 s68 Qb0) Tryz.func31 rfl rc31_ok rv31_ok (by
 intro xs q r cs' h hq
 split at h
 · rename_i z cs
   cases h
   obtain ⟨rfl,hc,h⟩:=hq
   generalize seD cs=s at *
   subst hc
   exact ⟨I31 s,rfl,Nat.le_of_ble_eq_true rfl,walk31 rfl s h⟩
 · cases h
 )
theorem s33x:Sound Tryz.prog 33 DClS:=Qy0 (by kernel_rfl) Qb0 Tryz.func33 rfl rc33_ok rv33_ok (by
 intro xs q g h hq
 split at h
 · rename_i z cs
   cases h
   obtain ⟨rfl,hc,hp⟩:=hq
   generalize seD cs=s at *
   subst hc
   exact ⟨noI,Nat.le_of_ble_eq_true rfl,walk33  s hp⟩
 · cases h
 )
theorem s33:Sound Tryz.prog 33 CClS:=own_of_ext s33x (by
 intro xs q es h
 split at h
 · cases h
   exact ⟨_,rfl,rfl⟩
 · cases h)
theorem s35:Sound Tryz.prog 35 CClP:=Qc0 (by kernel_rfl) Qb0 Tryz.func35 rfl rc35_ok rv35_ok (by
 intro xs q r cs' h hq
 split at h
 · rename_i x
   cases h
   rcases hq with rfl | ⟨l,rfl,hl⟩
   · exact ⟨noI,rfl,Nat.le_of_ble_eq_true rfl,walk35n⟩
   · exact ⟨noI,rfl,Nat.le_of_ble_eq_true rfl,walk35l l (by rw [pts_len]; omega)⟩
 · cases h
 )
theorem s79:Sound Tryz.prog 79 CFn1:=Qc0 (by kernel_rfl) Qb0 Tryz.func79 rfl rc79_ok rv79_ok (by
 intro xs q r cs' h hq
 split at h
 · rename_i cs n' n
   cases h
   obtain ⟨he,hp⟩:=hq
   generalize seD cs=s at *
   subst he
   exact ⟨noI,rfl,Nat.le_of_ble_eq_true rfl,walk79  s hp n n'⟩
 · cases h
 )
theorem s78:Sound Tryz.prog 78 CIxS:=soundG (by kernel_rfl) (Qa0 s79 Qb0) Tryz.func78 rfl rc78_ok rv78_ok (by
 intro bs xs q g h hq
 split at h
 · split at h
   · rename_i z cs _ n n'
     cases h
     obtain ⟨rfl,hc,hp,hn,hn'⟩:=hq
     generalize seD cs=s at *
     subst hn' hn hc
     exact ⟨I78 s,λ_ _=>rfl,Nat.le_of_ble_eq_true rfl,walk78 rfl s hp⟩
   · cases h
 · cases h
 )
theorem s42:Sound Tryz.prog 42 CFnd:=Qc0 (by kernel_rfl) (Qa0 s78 Qb0) Tryz.func42 rfl rc42_ok rv42_ok (by
 intro xs q r cs' h hq
 split at h
 · rename_i zz z cs a b c n
   cases h
   obtain ⟨rfl,rfl,hc,hp,hn⟩:=hq
   generalize seD cs=s at *
   subst hn hc
   exact ⟨noI,rfl,Nat.le_of_ble_eq_true rfl,walk42 rfl s hp a b c⟩
 · cases h
 )
theorem s36:Sound Tryz.prog 36 CMsc:=Qc0 (by kernel_rfl) (Qa0 s42 Qb0) Tryz.func36 rfl rc36_ok rv36_ok (by
 intro xs q r cs' h hq
 split at h
 · rename_i zz z cs a b c
   cases h
   obtain ⟨rfl,rfl,hc⟩:=hq
   generalize seD cs=s at *
   subst hc
   exact ⟨I36n s a b c,rfl,Nat.le_of_ble_eq_true rfl,walk36n rfl s a b c⟩
 · rename_i zz z cs a b c zm n raw x
   cases h
   obtain ⟨rfl,rfl,rfl,rfl,hc,h,hn⟩:=hq
   generalize seD cs=s at *
   subst hn hc
   exact ⟨I36 s raw a b c,rfl,Nat.le_of_ble_eq_true rfl,walk36l rfl s h raw a b c⟩
 · cases h
 )
theorem s39:Sound Tryz.prog 39 CSc1:=Qc0 (by kernel_rfl) Qb0 Tryz.func39 rfl rc39_ok rv39_ok (by
 intro xs q r cs' h hq
 split at h
 · rename_i n ok raw x zz cs
   cases h
   obtain ⟨rfl,hc,hp⟩:=hq
   generalize seD zz=s at *
   subst hc
   exact ⟨noI,rfl,Nat.le_of_ble_eq_true rfl,walk39  s hp n raw x ok⟩
 · cases h
 )
theorem s38:Sound Tryz.prog 38 CIxM:=soundG (by kernel_rfl) (Qa0 s39 Qb0) Tryz.func38 rfl rc38_ok rv38_ok (by
 intro bs xs q g h hq
 split at h
 · split at h
   · rename_i zm n ok raw x _ zz cs
     cases h
     obtain ⟨rfl,rfl,hc,hp,hn⟩:=hq
     generalize seD zz=s at *
     subst hn hc
     exact ⟨I38 s ok raw x,λ_ _=>rfl,Nat.le_of_ble_eq_true rfl,walk38l rfl s hp raw x ok⟩
   · cases h
 · split at h
   · rename_i _ zz cs
     cases h
     exact ⟨I38n zz [cs],λ_ _=>rfl,Nat.le_of_ble_eq_true rfl,walk38n rfl zz [cs]⟩
   · cases h
 · cases h
 )
theorem s13:Sound Tryz.prog 13 CRdg:=Qc0 (by kernel_rfl) (Qa0 s42 (Qa0 s43 Qb0)) Tryz.func13 rfl rc13_ok rv13_ok (by
 intro xs q r cs' h hq
 split at h
 · rename_i zz z cs a zf w m b n
   cases h
   obtain ⟨rfl,rfl,rfl,hc,hn,h,hw,hf,hb⟩:=hq
   generalize seD cs=s at *
   subst hn hc
   exact ⟨noI,rfl,Nat.le_of_ble_eq_true rfl,walk13 rfl rfl s h w a b m hw hf hb⟩
 · cases h
 )
theorem s15:Sound Tryz.prog 15 CSta:=Qc0 (by kernel_rfl) (Qa0 s42 Qb0) Tryz.func15 rfl rc15_ok rv15_ok (by
 intro xs q r cs' h hq
 split at h
 · rename_i zz z cs a b zt st n
   cases h
   obtain ⟨rfl,rfl,rfl,hc,hn,hp⟩:=hq
   generalize seD cs=s at *
   subst hn hc
   exact ⟨noI,rfl,Nat.le_of_ble_eq_true rfl,walk15 rfl s hp a b st⟩
 · cases h
 )
theorem walk40 (P74:Phi 74=some CSt)(P43:Phi 43=some CRd)(P75:Phi 75=some CTs)(s:Se)(w:AV)(m st raw nn xx:Int)(ok:Bool)(h:okM s w m st)(hr:0≤raw∧raw≤255):evC Phi (noI) rc40 ⟨initS [.ptr 0 0,.int .i64 0,.agg [.int .u8 nn,.bool ok,.int .u8 raw,.int .u16 xx]],lookM (grM s w m st)⟩ (kRetG rv40 (λ(_ :Unit)=>(True,.tup [.lst [.int .i64 0,.bool false] (cgs (mC s (stW s (wOf w) raw ok m) st)),.int .u8 (rdV s (stW s (wOf w) raw ok m))],grM s (byt (stW s (wOf w) raw ok m)) (stM m ok) (mS s (stW s (wOf w) raw ok m) st)))):=by
 simp (maxSteps:=2000000) only [rc40,grM,Se.cs,rv40,byt,pk,un,Nat.reduceAdd,↓reduceIte,Nat.reduceMul,Nat.reduceEqDiff,Int.reduceLE,Nat.reduceLeDiff,Int.reduceToNat,Qf0,Nat.reduceLT,NL.k0 h.hs.np,Nat.reduceBEq,↓Qj0,P74,CSt,NL.la h.hs.np,NL.la h.hw.np,seD_lit,P43,CRd,WOk.l,wOf_l,P75,CTs]
 refine ⟨by decide,λhd=>absurd (hd.symm.trans h.hs.di) (by decide),λ_=>?_⟩
 have hF:=okF_st (raw:=raw) (ok:=ok) h.hs h.hf
 have hB:=Byt_st (s:=s) (m:=m) (ok:=ok) h.hb hr
 generalize stW s (wOf w) raw ok m=V at hF hB ⊢
 refine ⟨by decide,⟨h.hs,h.hw,h.hf⟩,by decide,by decide,⟨h.hs,hF,hB⟩,λhk=>?_,λhk=>?_⟩
 · have hk:rdK s V=false:=by simpa using hk
   have e1:mC s V st= []:=if_neg (λhh=>absurd (hk.symm.trans hh) (by decide))
   have e2:mS s V st=st:=if_neg (λhh=>absurd (hk.symm.trans hh) (by decide))
   have e3:rdV s V=0:=if_neg (of_decide_eq_false hk)
   rw [e1,e2,e3]
   exact ⟨⟨rfl,rfl⟩,rfl⟩
 · have hk:rdK s V=true:=by simpa using hk
   have e1:mC s V st=chO (IntKind.u8.wrap st) (mT s V st) 6:=if_pos hk
   have e2:mS s V st=IntKind.u16.wrap (mT s V st):=if_pos hk
   rw [e1,e2]
   exact ⟨by decide,⟨h.hs,h.ht⟩,by decide,rfl,rfl⟩
def S11a (s:Se)(p:Bool):SL:=⟨[(0,.lst zS [s.cs]),(8,.ptr 2048 0),(36,Ii 1),(37,Ii (cond p 1 0))],[(2048,.cells [.vw 1408 0 0 0,.nil,.vw 1728 0 0 0,.vw 1920 0 0 0]),(1408,.buf 36 zS [s.cs]),(1728,.buf 114 [.nil,Ii 0] [[.nil,Ii 0]]),(1920,.buf 34 [.int .u16 0] [[.int .u16 0]])]⟩
abbrev L11a (s:Se):LI:=⟨Bool,S11a s,λp=>cond p 0 1,λp q=>True⟩
theorem L11aS (s:Se):(L11a s).S=S11a s:=rfl
theorem L11aR (s:Se)(p q:Bool):(L11a s).R p q=(True):=rfl
def I11 (s:Se):Nat→LI:=λn=>L11a s
theorem I11_0 (s:Se):I11 s 0=L11a s:=rfl
theorem walk11 (P31:Phi 31=some CMck)(P32:Phi 32=some CChk)(P33:Phi 33=some CClS)(P34:Phi 34=some CClA)(P35:Phi 35=some CClP)(s:Se)(h:OkS s):evC Phi (I11 s) rc11 ⟨initS [.lst zS [s.cs],.nil],lookM []⟩ (kRetG rv11 (λ(_ :Unit)=>(True,.tup [.ptr 2048 0,.int .i64 0],[(2048,.cells [.vw 1408 0 0 0,.nil,.vw 1728 0 0 0,.vw 1920 0 0 0]),(1408,.buf 36 zS [s.cs]),(1728,.buf 114 [.nil,.int .i64 0] [[.nil,.int .i64 0]]),(1920,.buf 34 [.int .u16 0] [[.int .u16 0]])]))):=by
 simp (maxSteps:=2000000) only [rc11,Se.cs,rv11,pk,un,Nat.reduceEqDiff,↓reduceIte,P31,CMck,seD_lit,↓Qj0,P32,CChk,Nat.reduceMul,Nat.reduceAdd,P33,CClS,P34,CClA,Nat.reduceLeDiff,I11_0,L11aS,S11a,L11aR,Nat.reduceBEq,↓Bool.forall_bool,Bool.cond_false,Int.reduceLT,Int.reduceLE,Int.reduceToNat,Qf0,P35,CClP,NL.gv h.np,NL.lx h.np,NL.c2 h.np,NL.ce h.np,NL.c0 h.np,Nat.reduceLT,↓Bool.exists_bool,Bool.cond_true,NL.ps h.np]
 exact ⟨h,h.np,by decide,by decide,.inl ⟨rfl,by decide,h.po,by decide,.inr rfl⟩⟩
noncomputable def S12la (s:Se)(w:AV)(m st raw:Int)(ho:Bool)(p:Bool):SL:=⟨[(0,.ptr 0 0),(1,.lst [.int .u8 0,.bool false,.int .u8 0,.int .u16 0] [[.int .u8 s.nu,.bool true,.int .u8 raw,.int .u16 0]]),(2,.nil),(3,.bool ho),(11,.vw 3200 0 0 0),(29,.vw 32 0 0 0),(30,.int .i64 1),(31,.int .i64 (cond p 1 0))],[(0,.cells [.vw 32 0 0 0,.nil,.vw 33 0 0 0,.vw 34 0 0 0]),(32,.buf 36 zS [s.cs]),(33,.buf 114 [.nil,.int .i64 0] [[cond p (byt (stW s (wOf w) raw true m)) w,.int .i64 (cond p (stM m true) m)]]),(34,.buf 34 [.int .u16 0] [[.int .u16 (cond p (mS s (stW s (wOf w) raw true m) st) st)]]),(3200,.buf 82 zE (cond p (evs (scE s (stW s (wOf w) raw true m) st)) []))]⟩
noncomputable abbrev L12la (s:Se)(w:AV)(m st raw:Int)(ho:Bool):LI:=⟨Bool,S12la s w m st raw ho,λp=>cond p 0 1,λp q=>True⟩
theorem L12laS (s:Se)(w:AV)(m st raw:Int)(ho:Bool):(L12la s w m st raw ho).S=S12la s w m st raw ho:=rfl
theorem L12laR (s:Se)(w:AV)(m st raw:Int)(ho:Bool)(p q:Bool):(L12la s w m st raw ho).R p q=(True):=rfl
noncomputable def I12l (s:Se)(w:AV)(m st raw:Int)(ho:Bool):Nat→LI:=λn=>L12la s w m st raw ho
theorem I12l_0 (s:Se)(w:AV)(m st raw:Int)(ho:Bool):I12l s w m st raw ho 0=L12la s w m st raw ho:=rfl
theorem walk12l (P36:Phi 36=some CMsc)(P37:Phi 37=some CPrs)(P38:Phi 38=some CIxM)(P40:Phi 40=some CStp)(P41:Phi 41=some CEvs)(s:Se)(w:AV)(m st raw:Int)(ho:Bool)(h:okM s w m st)(hh:s.ho=false)(hr:0≤raw∧raw≤255):evC Phi (I12l s w m st raw ho) rc12 ⟨initS [.ptr 0 0,.lst [.int .u8 0,.bool false,.int .u8 0,.int .u16 0] [[.int .u8 s.nu,.bool true,.int .u8 raw,.int .u16 0]],.nil,.bool ho],lookM (grM s w m st)⟩ (kRetG rv12 (λ(_ :Unit)=>(True,.tup [.lst zE (evs (scE s (stW s (wOf w) raw true m) st)),.int .i64 0],grM s (byt (stW s (wOf w) raw true m)) (stM m true) (mS s (stW s (wOf w) raw true m) st)))):=by
 simp (maxSteps:=2000000) only [rc12,grM,Se.cs,rv12,byt,pk,un,Nat.reduceEqDiff,↓reduceIte,P36,CMsc,seD_lit,↓Qj0,Nat.reduceAdd,Nat.reduceLeDiff,I12l_0,L12laS,S12la,Nat.reduceLT,L12laR,↓Bool.forall_bool,Bool.cond_false,Int.reduceLT,Int.reduceLE,Int.reduceToNat,Qf0,Nat.reduceMul,NL.k0 h.hs.np,P37,CPrs,↓Bool.exists_bool,Bool.cond_true,NL.c0 h.hs.np,P38,CIxM,↓Qi0,P40,CStp,gsM,gwM,gmM,gtM,Nat.reduceBEq,Option.isSome_some,P41,CEvs,NL.la h.hs.np,decG_cgs,evs_len]
 have hl:=evL_len s (rdV s (stW s (wOf w) raw true m)) (mC s (stW s (wOf w) raw true m) st)
 have h6:=(okCg_mC s (stW s (wOf w) raw true m) st).1
 exact ⟨h.hs,.inl ⟨rfl,by decide,λhc=>absurd ((by rw [hh]; rfl:(s.ho && !ho) =false).symm.trans hc) (by decide),λ_=>⟨h.hs.np,by decide,⟨h,hr⟩,⟨h.hs.np,h.hs.di,okCg_mC _ _ _⟩,by omega,by omega,.inr ⟨rfl,rfl⟩⟩⟩⟩
noncomputable def S12na (s:Se)(w:AV)(m st raw:Int)(ho:Bool)(p:Bool):SL:=⟨[(0,.ptr 0 0),(1,.nil),(2,.nil),(3,.bool ho),(11,.vw 3200 0 0 0),(29,.vw 32 0 0 0),(30,.int .i64 1),(31,.int .i64 (cond p 1 0))],[(0,.cells [.vw 32 0 0 0,.nil,.vw 33 0 0 0,.vw 34 0 0 0]),(32,.buf 36 zS [s.cs]),(33,.buf 114 [.nil,.int .i64 0] [[cond p (byt (stW s (wOf w) 0 false m)) w,.int .i64 (cond p (stM m false) m)]]),(34,.buf 34 [.int .u16 0] [[.int .u16 (cond p (mS s (stW s (wOf w) 0 false m) st) st)]]),(3200,.buf 82 zE (cond p (evs (scE s (stW s (wOf w) 0 false m) st)) []))]⟩
noncomputable abbrev L12na (s:Se)(w:AV)(m st raw:Int)(ho:Bool):LI:=⟨Bool,S12na s w m st raw ho,λp=>cond p 0 1,λp q=>True⟩
theorem L12naS (s:Se)(w:AV)(m st raw:Int)(ho:Bool):(L12na s w m st raw ho).S=S12na s w m st raw ho:=rfl
theorem L12naR (s:Se)(w:AV)(m st raw:Int)(ho:Bool)(p q:Bool):(L12na s w m st raw ho).R p q=(True):=rfl
noncomputable def I12n (s:Se)(w:AV)(m st raw:Int)(ho:Bool):Nat→LI:=λn=>L12na s w m st raw ho
theorem I12n_0 (s:Se)(w:AV)(m st raw:Int)(ho:Bool):I12n s w m st raw ho 0=L12na s w m st raw ho:=rfl
theorem walk12n (P36:Phi 36=some CMsc)(P37:Phi 37=some CPrs)(P38:Phi 38=some CIxM)(P40:Phi 40=some CStp)(P41:Phi 41=some CEvs)(s:Se)(w:AV)(m st raw:Int)(ho:Bool)(h:okM s w m st)(hh:s.ho=false):evC Phi (I12n s w m st raw ho) rc12 ⟨initS [.ptr 0 0,.nil,.nil,.bool ho],lookM (grM s w m st)⟩ (kRetG rv12 (λ(_ :Unit)=>(True,.tup [.lst zE (evs (scE s (stW s (wOf w) 0 false m) st)),.int .i64 0],grM s (byt (stW s (wOf w) 0 false m)) (stM m false) (mS s (stW s (wOf w) 0 false m) st)))):=by
 simp (maxSteps:=2000000) only [rc12,grM,Se.cs,rv12,byt,pk,un,Nat.reduceEqDiff,↓reduceIte,P36,CMsc,seD_lit,↓Qj0,Nat.reduceAdd,Nat.reduceLeDiff,I12n_0,L12naS,S12na,Nat.reduceLT,L12naR,↓Bool.forall_bool,Bool.cond_false,Int.reduceLT,Int.reduceLE,Int.reduceToNat,Qf0,Nat.reduceMul,NL.k0 h.hs.np,P37,CPrs,↓Bool.exists_bool,Bool.cond_true,NL.c0 h.hs.np,P38,CIxM,↓Qi0,P40,CStp,gsM,gwM,gmM,gtM,Nat.reduceBEq,Option.isSome_some,P41,CEvs,NL.la h.hs.np,decG_cgs,evs_len]
 have hl:=evL_len s (rdV s (stW s (wOf w) 0 false m)) (mC s (stW s (wOf w) 0 false m) st)
 have h6:=(okCg_mC s (stW s (wOf w) 0 false m) st).1
 exact .inl ⟨rfl,by decide,λhc=>absurd ((by rw [hh]; rfl:(s.ho && !ho) =false).symm.trans hc) (by decide),λ_=>⟨h,⟨h.hs.np,h.hs.di,okCg_mC _ _ _⟩,by omega,by omega,.inr ⟨rfl,rfl⟩⟩⟩
theorem s40:Sound Tryz.prog 40 CStp:=soundG (by kernel_rfl) (Qa0 s74 (Qa0 s43 (Qa0 s75 Qb0))) Tryz.func40 rfl rc40_ok rv40_ok (by
 intro bs xs q g h hq
 split at h
 · rename_i nn ok raw xx
   cases h
   obtain ⟨hb,h,hr⟩:=hq
   generalize gsM bs=s at *
   generalize gwM bs=w at *
   generalize gmM bs=m at *
   generalize gtM bs=st at *
   subst hb
   exact ⟨noI,λ_ _=>rfl,Nat.le_of_ble_eq_true rfl,walk40 rfl rfl rfl s w m st raw nn xx ok h hr⟩
 · cases h
 )
theorem s12:Sound Tryz.prog 12 CScn:=soundG (by kernel_rfl) (Qa0 s36 (Qa0 s37 (Qa0 s38 (Qa0 s40 (Qa0 s41 Qb0))))) Tryz.func12 rfl rc12_ok rv12_ok (by
 intro bs xs q g h hq
 split at h
 · rename_i zm n raw x ho
   cases h
   obtain ⟨hb,rfl,rfl,hn,hh,h,hr⟩:=hq
   generalize gsM bs=s at *
   generalize gwM bs=w at *
   generalize gmM bs=m at *
   generalize gtM bs=st at *
   subst hb hn
   exact ⟨I12l s w m st raw ho,λ_ _=>rfl,Nat.le_of_ble_eq_true rfl,walk12l rfl rfl rfl rfl rfl s w m st raw ho h hh hr⟩
 · rename_i ho
   cases h
   obtain ⟨hb,hh,h⟩:=hq
   generalize gsM bs=s at *
   generalize gwM bs=w at *
   generalize gmM bs=m at *
   generalize gtM bs=st at *
   subst hb
   exact ⟨I12n s w m st 0 ho,λ_ _=>rfl,Nat.le_of_ble_eq_true rfl,walk12n rfl rfl rfl rfl rfl s w m st 0 ho h hh⟩
 · cases h
 )
def CNewM:Ctr:= .gr Unit [] true λbs xs=>match xs with
 | [.lst z [cs],.nil]=>some (bs= []∧z= [.int .u8 0,.int .u8 0,.int .u8 0,.str [],.int .u8 0,.int .u8 0,.bool false,.int .i64 0,.bool false,.int .i64 0,.int .i64 0,.int .i64 0,.int .i64 0,.nil,.int .u8 0,.int .u8 0,.int .u8 0,.int .u8 0,.int .u8 0,.int .u8 0,.int .u8 0,.int .u8 0,.int .u8 0,.int .u16 0,.int .u16 0,.int .u16 0,.bool false,.int .i64 0]∧cs=(seD cs).cs∧OkS (seD cs),λ_=>(True,.tup [.ptr 2048 0,.int .i64 0],[(2048,.cells [.vw 1408 0 0 0,.nil,.vw 1728 0 0 0,.vw 1920 0 0 0]),(1408,.buf 36 [.int .u8 0,.int .u8 0,.int .u8 0,.str [],.int .u8 0,.int .u8 0,.bool false,.int .i64 0,.bool false,.int .i64 0,.int .i64 0,.int .i64 0,.int .i64 0,.nil,.int .u8 0,.int .u8 0,.int .u8 0,.int .u8 0,.int .u8 0,.int .u8 0,.int .u8 0,.int .u8 0,.int .u8 0,.int .u16 0,.int .u16 0,.int .u16 0,.bool false,.int .i64 0] [cs]),(1728,.buf 114 [.nil,.int .i64 0] [[.nil,.int .i64 0]]),(1920,.buf 34 [.int .u16 0] [[.int .u16 0]])]))
 | _=>none
theorem s11:Sound Tryz.prog 11 CNewM:=soundG (by kernel_rfl) (Qa0 s31 (Qa0 s32 (Qa0 s33 (Qa0 s34 (Qa0 s35 Qb0))))) Tryz.func11 rfl rc11_ok rv11_ok (by
 intro bs xs q g h hq
 split at h
 · rename_i z cs
   cases h
   obtain ⟨rfl,rfl,hc,h⟩:=hq
   generalize hs:seD cs=s at *
   subst hc
   exact ⟨I11 s,λ_ _=>rfl,Nat.le_of_ble_eq_true rfl,walk11 rfl rfl rfl rfl rfl s h⟩
 · cases h
 )
theorem walk53r (P92:Phi 92=some CDn)(g:Lg)(d:Dv):evC Phi (noI) rc53 ⟨initS [.ptr 0 0],lookM (grR g d)⟩ (kRetG rv53 (λb=>(d.dn=b,.bool b,match b with | false=>grR g (d.sd false) | true=>(0,.cells dead)::(d.sd true).bl 1 33 34))):=by
 simp (maxSteps:=2000000) only [rc53,grR,Lg.cs,Dv.cs,rv53,Dv.sd_sz,Dv.sd_st,Dv.sd_lf,Dv.sd_to,Dv.sd_dn,Dv.sd_by,Dv.sd_wr,dead,Dv.bl,pk,un,Nat.reduceEqDiff,↓reduceIte,P92,CDn,Nat.reduceAdd,Nat.reduceLeDiff,↓Bool.exists_bool,Nat.reduceLT,Nat.reduceBEq]
 refine ⟨λh=> .inr ?_,λh=> .inl ?_⟩
 · have h:d.dn=true:=by simpa using h
   exact ⟨h,congrArg AV.bool h⟩
 · have h:d.dn=false:=by simpa using h
   exact ⟨h,congrArg AV.bool h⟩
end Go.Proofs.YthgmdkokaflgjaaGreatDoor
