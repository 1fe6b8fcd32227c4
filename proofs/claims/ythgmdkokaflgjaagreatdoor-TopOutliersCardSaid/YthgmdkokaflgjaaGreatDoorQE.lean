/- A part of the proof; no condition. -/
import Derived.Test.YthgmdkokaflgjaaGreatDoorQD
import Derived.WalkKit
import Derived.ProofKit
import Derived.OpenShut
import Derived.ShutString
import Derived.ChangeOld
import Derived.Below
set_option linter.unusedSimpArgs false
set_option linter.unusedVariables false
set_option linter.unusedSectionVars false
namespace Go.Ev
open Go Go.RowKit
variable (B m:Nat→Option Blk)(D:List (Nat×Option Nat×Res))(I:Nat→LI)(K:St→Prop)(R T a a1 b b1 bytes c c1 d e f hi i i0 id j lo n o off q r r0 sz t t1 ty:Nat)(af bs fs t':List Nat)(ag mx st:Bool)(cs ds vs xs ys z z1 zero zs zz:List AV)(d1 dst:Option Nat)(ee es es1:List (List AV))(fn:List AV→List AV→Option (Prop×AV×List AV))(g:Option (Nat×Bool))(k:IntKind)(l:List (Nat×AV))(ls:List Lk)(op:IOp)(p:List (Nat×Bool))(post pre:List Prop)(ps:List (Nat×A))(r1:Res)(rest:List RO)(rv:List RV)(s:Nat→AV)(us:List (Nat×Blk))(v y:AV)(x:A)(Φ:Nat→Option Ctr)(σ:St)
def gvB (b:Bool)(v:AV):Option AV:=match b with
 | true=>some v
 | false=>none
theorem gvB_true:gvB true v=some v:=by rfl
def goOp (Φ:Nat→Option Ctr)(rest:List RO)(K:St→Prop)(σ:St)(dst:Option Nat):Option Res→Prop
 | none=>False
 | some r=>askL r.pre (knowL r.post (evOps Φ rest (σ.put dst r) K))
def gG (Φ:Nat→Option Ctr)(op:IOp)(d:Nat)(σ:St):Option (List (Nat×Bool))→Option Res
 | none=>none
 | some p=>guardR σ p (evOp Φ op d p σ)
def killO (r:Nat):Option Blk→Option Blk
 | none=>none
 | some b=>some (killB r b)
theorem killO_none:killO r none=none:=by rfl
theorem killO_some (b:Blk):killO r (some b) =some (killB r b):=by rfl
def consO:Option AV→Option (List AV)→Option (List AV)
 | some v,some vs=>some (v::vs)
 | _,_=>none
theorem consO_some:consO (some v) (some vs) =some (v::vs):=by rfl
def pick3:Option AV→Option AV→Option AV→Option Res
 | some c,some a,some b=>pickV c a b
 | _,_,_=>none
def cmp2 (op:BinOp)(ty:Nat):Option AV→Option AV→Option Res
 | some v,some w=>toR (cmpR op ty v w)
 | _,_=>none
def mmO (mx:Bool):Option (List AV)→Option Res
 | some (.int k n::vs)=>toR (minmaxL mx (.int k n) vs)
 | _=>none
theorem mmO_some (n:Int):mmO mx (some (.int k n::vs)) =toR (minmaxL mx (.int k n) vs):=by rfl
def iasB (z:List AV)(es:List (List AV))(n:Int):Bool→Option Res
 | true=>some ⟨[0≤n∧n < es.length],[es.length≤9223372036854775807],.ep z es n.toNat 0,[],none,[]⟩
 | false=>none
theorem iasB_true (n:Int):iasB z es n true=some ⟨[0≤n∧n < es.length],[es.length≤9223372036854775807],.ep z es n.toNat 0,[],none,[]⟩:=by rfl
def iaA (n sz:Nat)(i:A):Option AV→Option AV→Option Res
 | some v,some u=>iaddrAR n sz v i u
 | _,_=>none
theorem iaA_some (i:A)(u:AV):iaA n sz i (some v) (some u) =iaddrAR n sz v i u:=by rfl
def ldB (n:Nat)(ag:Bool)(o r:Nat):Option Blk→Option Res
 | some (.cells cs)=>(match valOf ag n cs o with
   | some v=>some ⟨[],[],v,[],none,[r]⟩
   | none=>none)
 | _=>none
def ldV (t:List Nat):Option AV→Option Res
 | some v=>some ⟨[],[],v,[],none,t⟩
 | none=>none
theorem ldV_some (t:List Nat):ldV t (some v) =some ⟨[],[],v,[],none,t⟩:=by rfl
theorem ldB_cells:ldB n ag o r (some (.cells cs)) =ldV [r] (valOf ag n cs o):=by
 simp only [ldB]; cases valOf ag n cs o<;>rfl
def valB (n:Nat)(cs:List AV)(off:Nat):Bool→Option AV
 | true=>some (.agg ((cs.drop off).take n))
 | false=>none
theorem valB_true:valB n cs off true=some (.agg ((cs.drop off).take n)):=by rfl
def stB (n o r:Nat):Option (List AV)→Option Blk→Option Res
 | some vs,some (.cells cs)=>(match decide (o+n≤cs.length) with
   | true=>some ⟨[],[],.junk,[(r,.cells (setCells cs o vs))],none,[r]⟩
   | false=>none)
 | _,_=>none
def stC (o r:Nat)(vs cs:List AV):Bool→Option Res
 | true=>some ⟨[],[],.junk,[(r,.cells (setCells cs o vs))],none,[r]⟩
 | false=>none
theorem stC_true:stC o r vs cs true=some ⟨[],[],.junk,[(r,.cells (setCells cs o vs))],none,[r]⟩:=by rfl
theorem stB_cells:stB n o r (some vs) (some (.cells cs)) =stC o r vs cs (decide (o+n≤cs.length)):=by
 simp only [stB]; cases decide (o+n≤cs.length)<;>rfl
def bxO (d:Nat):Option (List AV)→Option Res
 | some cs=>some ⟨[],[],.ptr ((64 * d+64)) 0,[],some ((64 * d+64),.cells cs),[]⟩
 | none=>none
theorem bxO_some:bxO d (some cs) =some ⟨[],[],.ptr ((64 * d+64)) 0,[],some ((64 * d+64),.cells cs),[]⟩:=by rfl
def blO:Option (List AV)→Option Res
 | some cs=>some ⟨[],[],.agg cs,[],none,[]⟩
 | none=>none
theorem blO_some:blO (some cs) =some ⟨[],[],.agg cs,[],none,[]⟩:=by rfl
def blS (z:List AV):Option (List (List AV))→Option Res
 | some es=>some ⟨[],[],.lst z es,[],none,[]⟩
 | none=>none
theorem blS_some:blS z (some es) =some ⟨[],[],.lst z es,[],none,[]⟩:=by rfl
def faK (σ:St)(p:List (Nat×Bool))(cs:List AV)(off n:Nat)(ps:List (Nat×Nat×A)):Option AV→Option (List AV)
 | some v=>(match cellsOfAV n v with
   | some vs=>if off+n≤cs.length then fillA σ p (setCells cs off vs) ps else none
   | none=>none)
 | none=>none
def faC (σ:St)(p:List (Nat×Bool))(cs:List AV)(off n:Nat)(ps:List (Nat×Nat×A)):Option (List AV)→Option (List AV)
 | some vs=>if off+n≤cs.length then fillA σ p (setCells cs off vs) ps else none
 | none=>none
theorem faK_some (ps:List (Nat×Nat×A)):faK σ p cs off n ps (some v) =faC σ p cs off n ps (cellsOfAV n v):=by
 simp only [faK]; cases cellsOfAV n v<;>rfl
theorem faC_some (ps:List (Nat×Nat×A)):faC σ p cs off n ps (some vs) =if off+n≤cs.length then fillA σ p (setCells cs off vs) ps else none:=by rfl
def fsK (σ:St)(p:List (Nat×Bool))(n:Nat)(es:List (List AV))(i:Nat)(ps:List (Nat×A)):Option AV→Option (List (List AV))
 | some v=>(match cellsOfAV n v with
   | some vs=>if i < es.length∧vs.all AV.clean0=true then fillS σ p n (es.set i vs) ps else none
   | none=>none)
 | none=>none
def fsC (σ:St)(p:List (Nat×Bool))(n:Nat)(es:List (List AV))(i:Nat)(ps:List (Nat×A)):Option (List AV)→Option (List (List AV))
 | some vs=>if i < es.length∧vs.all AV.clean0=true then fillS σ p n (es.set i vs) ps else none
 | none=>none
theorem fsK_some:fsK σ p n es i ps (some v) =fsC σ p n es i ps (cellsOfAV n v):=by
 simp only [fsK]; cases cellsOfAV n v<;>rfl
theorem fsC_some:fsC σ p n es i ps (some vs) =if i < es.length∧vs.all AV.clean0=true then fillS σ p n (es.set i vs) ps else none:=by rfl
def clE (d:Nat)(m:Nat→Option Blk)(C:Option Ctr):Option (List AV)→Option Res
 | some vs=>callE d m C vs
 | none=>none
theorem clE_some (C:Option Ctr):clE d m C (some vs) =callE d m C vs:=by rfl
theorem callE_pure:callE d m (some (.mk false fn)) vs=callN fn (lendsX m vs):=by rfl
theorem callE_state:callE d m (some (.mk true fn)) (.ptr r 0::vs) =callC m fn r vs (m r):=by rfl
theorem callE_own (d:Nat)(m:Nat→Option Blk)(T:Nat)(z:List AV)(fn:List AV→Option (Prop×List (List AV)))(vs:List AV):callE d m (some (.own T z fn)) vs=ownW d T z fn (lends m vs):=by rfl
def ownK (d T:Nat)(z:List AV)(bs:List Nat):Option (Prop×List (List AV))→Option Res
 | some (q,es)=>some ⟨[q,backF bs es],[],.vw (64 * d+64) 0 0 0,[],some (64 * d+64,.buf T z es),bs⟩
 | none=>none
theorem ownW_some (d T:Nat)(z:List AV)(fn:List AV→Option (Prop×List (List AV)))(vs:List AV)(bs:List Nat):ownW d T z fn (some (vs,bs)) =ownK d T z bs (fn vs):=by
 simp only [ownW,ownK]; cases fn vs<;>rfl
theorem ownK_some (q:Prop):ownK d T z bs (some (q,es)) =some ⟨[q,backF bs es],[],.vw (64 * d+64) 0 0 0,[],some (64 * d+64,.buf T z es),bs⟩:=by rfl
theorem backF_nil:backF [] es=True:=by rfl
theorem len_sv:lenM m 0 (.sv r sz lo hi) =some ⟨[],[hi - lo≤9223372036854775807],.int .i64 ((hi - lo:Nat):Int),[],none,[]⟩:=by rfl
theorem ev_copy (y:A):evOp Φ (.copy sz x y) d p σ=bind2 (av σ p x) (av σ p y) (cpR σ.m sz):=by rfl
theorem cpR_vw:cpR m sz (.vw r a b c) y=cpB sz r (m r) (ysOf m 1 y):=by rfl
def cpK (r t:Nat)(z:List AV)(es ys:List (List AV))(t':List Nat):Bool→Option Res
 | true=>some ⟨[],[],.int .i64 ((min ys.length es.length:Nat):Int),[(r,.buf t z (ys.take es.length ++ es.drop ys.length))],none,r::t'⟩
 | false=>none
theorem cpB_buf (ys:List (List AV)):cpB sz r (some (.buf t z es)) (some (ys,t')) =cpK r t z es ys t' (decide (sz=1∧z.length=1)):=by
 simp only [cpB,cpK]; cases decide (sz=1∧z.length=1)<;>rfl
theorem cpK_t (ys:List (List AV)):cpK r t z es ys t' true=some ⟨[],[],.int .i64 ((min ys.length es.length:Nat):Int),[(r,.buf t z (ys.take es.length ++ es.drop ys.length))],none,r::t'⟩:=by rfl
def condK (t e:Prop):AV→Prop
 | .bool b=>(b=true→t)∧(b=false→e)
 | .nb b=>(b=true→t)∧e
 | _=>False
theorem condK_bool (t e:Prop)(b:Bool):condK t e (.bool b) =((b=true→t)∧(b=false→e)):=by rfl
def kEndB (K:Exit→St→Prop)(s:Nat→AV)(m:Nat→Option Blk):Bool→Prop
 | true=>K .normal ⟨ungdS s,m⟩
 | false=>K .normal ⟨s,m⟩
theorem kEndB_t (K:Exit→St→Prop):kEndB K s m true=K .normal ⟨ungdS s,m⟩:=by rfl
theorem kEndB_f (K:Exit→St→Prop):kEndB K s m false=K .normal ⟨s,m⟩:=by rfl
def kBlkB (K:Exit→St→Prop)(i:Nat)(σ:St):Bool→Prop
 | true=>K .normal σ
 | false=>K (.exit i) σ
theorem kBlkB_t (K:Exit→St→Prop):kBlkB K i σ true=K .normal σ:=by rfl
def rtO (r:AV):Option (List AV)→Prop
 | some vs=>resV vs r
 | none=>False
theorem rtO_some (r:AV):rtO r (some vs) =resV vs r:=by rfl
def rtM (cs:List AV):Option Blk→Prop
 | some (.cells ds)=>leAs ds cs
 | _=>False
theorem rtM_cells:rtM cs (some (.cells ds)) =leAs ds cs:=by rfl
def rvP (m:Nat→Option Blk)(n:Nat)(ag:Bool):AV→Option AV
 | .ptr r o=>(match m r with
   | some (.cells cs)=>valOf ag n cs o
   | _=>none)
 | _=>none
def rvB (n:Nat)(ag:Bool)(o:Nat):Option Blk→Option AV
 | some (.cells cs)=>valOf ag n cs o
 | _=>none
theorem rvP_ptr:rvP m n ag (.ptr r o) =rvB n ag o (m r):=by
 simp only [rvP]; cases m r with
 | none=>rfl
 | some b=>cases b<;>rfl
theorem rvB_cells:rvB n ag o (some (.cells cs)) =valOf ag n cs o:=by rfl
theorem leA_nil:leA .nil (.lst z es) =(es= []):=by rfl
theorem leA_nilnil:leA .nil .nil=True:=propext (iff_true_intro rfl)
theorem leV1_agg:leV1 (.agg xs) (.agg ys) =leAs xs ys:=by rfl
theorem leV1_nil:leV1 .nil y=leA .nil y:=by rfl
theorem leAs_nil:leAs [] [] =True:=by rfl
theorem leAs_cons (x:AV):leAs (x::xs) (y::ys) =(leA x y∧leAs xs ys):=by rfl
theorem leVs_nil:leVs [] [] =True:=by rfl
theorem leVs_cons (x:AV):leVs (x::xs) (y::ys) =(leV1 x y∧leVs xs ys):=by rfl
theorem resV_one (r:AV):resV [v] r=leV1 v r:=by rfl
theorem resV_two (x:AV):resV (x::y::zs) (.tup ys) =leVs (x::y::zs) ys:=by rfl
theorem evOps_nil:evOps Φ [] σ K=K σ:=by rfl
theorem goOp_some (p q:List Prop)(nw:Option (Nat×Blk))(t:List Nat):goOp Φ rest K σ dst (some ⟨p,q,v,us,nw,t⟩) =askL p (knowL q (evOps Φ rest (σ.put dst ⟨p,q,v,us,nw,t⟩) K)):=by rfl
theorem evG_no:evG Φ ⟨dst,op,none,af⟩ σ=evOp Φ op (dst.getD 0) [] σ:=by rfl
theorem evG_yes (g:Nat)(b:Bool):evG Φ ⟨dst,op,some (g,b),af⟩ σ=gG Φ op (dst.getD 0) σ (pathG g b (σ.s g)):=by
 simp only [evG]; cases pathG g b (σ.s g)<;>rfl
theorem gG_some:gG Φ op d σ (some p) =guardR σ p (evOp Φ op d p σ):=by rfl
theorem pathG_bool (g:Nat)(b c:Bool):pathG g b (.bool c) =some [(g,b)]:=by rfl
theorem pathG_gd (g:Nat)(b c:Bool)(q:List (Nat×Bool)):pathG g b (.gd q (.bool c)) =some (q ++ [(g,b)]):=by rfl
theorem guardR_q (t:List Nat):guardR σ p (some ⟨pre,post,v,[],none,t⟩) =some ⟨guardL σ.s p pre,[],.gd p v,[],none,t⟩:=by rfl
theorem guardL_nil:guardL s p [] = []:=by rfl
theorem guardL_cons (q:Prop)(qs:List Prop):guardL s p (q::qs) =(pathP s p→q)::guardL s p qs:=by rfl
theorem pathP_nil:pathP s [] =True:=by rfl
theorem pathP_cons (g:Nat)(b:Bool):pathP s ((g,b)::p) =(boolOf (s g) =some b∧pathP s p):=by rfl
theorem boolOf_bool (c:Bool):boolOf (.bool c) =some c:=by rfl
theorem boolOf_gd (q:List (Nat×Bool))(c:Bool):boolOf (.gd q (.bool c)) =some c:=by rfl
theorem askL_nil (K:Prop):askL [] K=K:=by rfl
theorem askL_cons (q:Prop)(qs:List Prop)(K:Prop):askL (q::qs) K=(q∧askL qs K):=by rfl
theorem knowL_nil (K:Prop):knowL [] K=K:=by rfl
theorem knowL_cons (q:Prop)(qs:List Prop)(K:Prop):knowL (q::qs) K=(q→knowL qs K):=by rfl
theorem put_q (p q:List Prop)(t:List Nat):St.put ⟨s,m⟩ (some d) ⟨p,q,v,[],none,t⟩ = ⟨upd s d v,m⟩:=by rfl
theorem put_u (p q:List Prop)(b:Blk)(t:List Nat):St.put ⟨s,m⟩ (some d) ⟨p,q,v,[(r,b)],none,t⟩ = ⟨upd s d v,updM m r (liveB b)⟩:=by rfl
theorem put_n (p q:List Prop)(b:Blk)(t:List Nat):St.put ⟨s,m⟩ (some d) ⟨p,q,v,[],some (i,b),t⟩ = ⟨upd (killS i s) d v,updM (killM i m) i (some (killB i b))⟩:=by rfl
theorem put_s (p q:List Prop)(b:Blk)(t:List Nat):St.put ⟨s,m⟩ none ⟨p,q,v,[(r,b)],none,t⟩ = ⟨s,updM m r (liveB b)⟩:=by rfl
theorem upd_at (k:Nat):upd s d v k=if k=d then v else s k:=by rfl
theorem updM_at (v:Option Blk)(k:Nat):updM m d v k=if k=d then v else m k:=by rfl
theorem killS_at (k:Nat):killS r s k=kill3 r (s k):=by rfl
theorem ungdS_at (k:Nat):ungdS s k=ungd (s k):=by rfl
theorem killM_at (k:Nat):killM r m k=killO r (m k):=by
 simp only [killM]; cases m k<;>rfl
theorem killB_cells:killB r (.cells cs) = .cells (cs.map (kill0 r)):=by rfl
theorem av_t:av ⟨s,m⟩ p (.t n) =gv p (s n):=by rfl
theorem av_c:av σ p (.c v) =gv p v:=by rfl
theorem ar_t:ar ⟨s,m⟩ (.t n) =s n:=by rfl
theorem ar_c:ar σ (.c v) =v:=by rfl
theorem avs_nil:avs σ p [] =some []:=by rfl
theorem avs_cons (xs:List A):avs σ p (x::xs) =consO (av σ p x) (avs σ p xs):=by
 simp only [avs]; cases av σ p x<;>cases avs σ p xs<;>rfl
theorem bind1_some' (f:AV→Option Res):bind1 (some v) f=f v:=by rfl
theorem bind2_some' (w:AV)(f:AV→AV→Option Res):bind2 (some v) (some w) f=f v w:=by rfl
theorem ev_mov:evOp Φ (.mov x) d p σ=bind1 (av σ p x) (un1 (.mov x)):=by rfl
theorem ev_not:evOp Φ (.not x) d p σ=bind1 (av σ p x) (un1 (.not x)):=by rfl
theorem ev_neg:evOp Φ (.neg x) d p σ=bind1 (av σ p x) (un1 (.neg x)):=by rfl
theorem ev_conv:evOp Φ (.conv k x) d p σ=bind1 (av σ p x) (un1 (.conv k x)):=by rfl
theorem ev_extract:evOp Φ (.extract i x) d p σ=bind1 (av σ p x) (un1 (.extract i x)):=by rfl
theorem ev_nilchk:evOp Φ (.nilchk x) d p σ=bind1 (av σ p x) (un1 (.nilchk x)):=by rfl
theorem un1_mov:un1 (.mov x) v=some ⟨[],[],v,[],none,[]⟩:=by rfl
theorem un1_not (b:Bool):un1 (.not x) (.bool b) =some ⟨[],[],.bool !b,[],none,[]⟩:=by rfl
theorem un1_neg (n:Int):un1 (.neg x) (.int k n) =some ⟨[],[],.int k (k.wrap (0 - n)),[],none,[]⟩:=by rfl
theorem un1_conv (k':IntKind)(n:Int):un1 (.conv k x) (.int k' n) =some ⟨[],[],.int k (k.wrap n),[],none,[]⟩:=by rfl
theorem un1_nilchk:un1 (.nilchk x) (.ptr r o) =some ⟨[],[],.ptr r o,[],none,[]⟩:=by rfl
theorem un1_extract:un1 (.extract i x) (.tup vs) =toR vs[i]?:=by
 simp only [un1]; cases vs[i]?<;>rfl
theorem toR_some':toR (some v) =some ⟨[],[],v,[],none,[]⟩:=by rfl
theorem ev_pick (k:Nat)(a b:A):evOp Φ (.pick (.t k) a b) d p σ=pick3 (av σ p (.t k)) (av σ (p ++ [(k,true)]) a) (av σ (p ++ [(k,false)]) b):=by
 simp only [evOp,slotOf]; cases av σ p (.t k)<;>cases av σ (p ++ [(k,true)]) a<;>cases av σ (p ++ [(k,false)]) b<;>rfl
theorem pick3_some (c a b:AV):pick3 (some c) (some a) (some b) =pickV c a b:=by rfl
theorem pickV_bool (c a b:Bool):pickV (.bool c) (.bool a) (.bool b) =some ⟨[],[],.bool (bif c then a else b),[],none,[]⟩:=by rfl
theorem ev_arith (op:BinOp)(y:A):evOp Φ (.arith op x y) d p σ=bind2 (av σ p x) (av σ p y) (arithR op):=by rfl
theorem arith_add (a b:Int):arithR .add (.int k a) (.int k b) =some ⟨[],[],.int k (k.wrap (a+b)),[],none,[]⟩:=by
 simp only [arithR,if_true]; rfl
theorem arith_sub (a b:Int):arithR .sub (.int k a) (.int k b) =some ⟨[],[],.int k (k.wrap (a - b)),[],none,[]⟩:=by
 simp only [arithR,if_true]; rfl
theorem arith_mul (a b:Int):arithR .mul (.int k a) (.int k b) =some ⟨[],[],.int k (k.wrap (a * b)),[],none,[]⟩:=by
 simp only [arithR,if_true]; rfl
theorem arith_and (a b:Int):arithR .and (.int k a) (.int k b) =some ⟨[],[],.int k (bitsI .and k a b),[],none,[]⟩:=by
 simp only [arithR,if_true]; rfl
theorem arith_or (a b:Int):arithR .or (.int k a) (.int k b) =some ⟨[],[],.int k (bitsI .or k a b),[],none,[]⟩:=by
 simp only [arithR,if_true]; rfl
theorem arith_xor (a b:Int):arithR .xor (.int k a) (.int k b) =some ⟨[],[],.int k (bitsI .xor k a b),[],none,[]⟩:=by
 simp only [arithR,if_true]; rfl
theorem arith_andNot (a b:Int):arithR .andNot (.int k a) (.int k b) =some ⟨[],[],.int k (bitsI .andNot k a b),[],none,[]⟩:=by
 simp only [arithR,if_true]; rfl
theorem arith_quo (a b:Int):arithR .quo (.int k a) (.int k b) =some ⟨[b≠0],[],.int k (k.wrap (a.tdiv b)),[],none,[]⟩:=by
 simp only [arithR,if_true]; rfl
theorem arith_rem (a b:Int):arithR .rem (.int k a) (.int k b) =some ⟨[b≠0],[],.int k (a.tmod b),[],none,[]⟩:=by
 simp only [arithR,if_true]; rfl
theorem ev_cmp (op:BinOp)(y:A):evOp Φ (.cmp op ty x y) d p σ=cmp2 op ty (av σ p x) (av σ p y):=by
 simp only [evOp]; cases av σ p x<;>cases av σ p y<;>rfl
theorem cmp2_some (op:BinOp)(w:AV):cmp2 op ty (some v) (some w) =toR (cmpR op ty v w):=by rfl
theorem cmp_eql (a b:Int):cmpR .eql 0 (.int k a) (.int k b) =some (.bool (decide (a=b))):=by
 simp only [cmpR,if_true]
theorem cmp_neq (a b:Int):cmpR .neq 0 (.int k a) (.int k b) =some (.bool (!decide (a=b))):=by
 simp only [cmpR,if_true]
theorem cmp_lss (a b:Int):cmpR .lss 0 (.int k a) (.int k b) =some (.bool (decide (a < b))):=by
 simp only [cmpR,if_true]
theorem cmp_leq (a b:Int):cmpR .leq 0 (.int k a) (.int k b) =some (.bool (decide (a≤b))):=by
 simp only [cmpR,if_true]
theorem cmp_gtr (a b:Int):cmpR .gtr 0 (.int k a) (.int k b) =some (.bool (decide (b < a))):=by
 simp only [cmpR,if_true]
theorem cmp_geq (a b:Int):cmpR .geq 0 (.int k a) (.int k b) =some (.bool (decide (b≤a))):=by
 simp only [cmpR,if_true]
theorem cmp_neqB (a b:Bool):cmpR .neq 1 (.bool a) (.bool b) =some (.bool (!(a == b))):=by rfl
theorem ev_len:evOp Φ (.len ty x) d p σ=bind1 (av σ p x) (lenM σ.m ty):=by rfl
theorem len_lst:lenM m 0 (.lst z es) =some ⟨[],[es.length≤9223372036854775807],.int .i64 es.length,[],none,[]⟩:=by rfl
theorem len_nil:lenM m 0 .nil=some ⟨[],[],.int .i64 0,[],none,[]⟩:=by rfl
theorem len_str (s:List UInt8):lenM m 1 (.str s) =some ⟨[],[],.int .i64 s.length,[],none,[]⟩:=by rfl
theorem ev_minmax (xs:List A):evOp Φ (.minmax mx xs) d p σ=mmO mx (avs σ p xs):=by
 simp only [evOp]; cases avs σ p xs with
 | none=>rfl
 | some vs=>cases vs with
   | nil=>rfl
   | cons x xs=>cases x<;>rfl
theorem mm_nil:minmaxL mx v [] =some v:=by rfl
theorem mm_max (a b:Int):minmaxL true (.int k a) (.int k b::vs) =minmaxL true (.int k (max a b)) vs:=by
 simp only [minmaxL,minmaxR,if_true]
 have:(if b > a then b else a) =max a b:=by omega
 rw [this]
theorem mm_min (a b:Int):minmaxL false (.int k a) (.int k b::vs) =minmaxL false (.int k (min a b)) vs:=by
 simp only [minmaxL,minmaxR,if_true]
 have:(if b < a then b else a) =min a b:=by omega
 rw [this]
theorem ev_faddr:evOp Φ (.faddr off x) d p σ=bind1 (av σ p x) (faddrR off):=by rfl
theorem faddr_ptr:faddrR off (.ptr r o) =some ⟨[],[],.ptr r (o+off),[],none,[]⟩:=by rfl
theorem faddr_ep:faddrR off (.ep z es i o) =some ⟨[],[],.ep z es i (o+off),[],none,[]⟩:=by rfl
theorem ev_iaddrS (sz:List AV)(i:A):evOp Φ (.iaddrS sz x i) d p σ=bind2 (av σ p x) (av σ p i) (iaddrSM σ.m sz):=by rfl
theorem ev_iaddrA (i:A):evOp Φ (.iaddrA n sz x i) d p σ=iaA n sz i (av σ p x) (av σ p i):=by
 simp only [evOp]; cases av σ p x<;>cases av σ p i<;>rfl
theorem iaddrA_ptr (j:Int)(u:AV):iaddrAR n sz (.ptr r o) (.c (.int k j)) u=some ⟨[0≤j∧j < n],[],.ptr r (o+j.toNat * sz),[],none,[]⟩:=by cases u<;>rfl
theorem iaddrA_t (j:Int):iaddrAR n sz (.ptr r o) (.t d) (.int k j) =some ⟨[0≤j∧j < n],[],.ptr r (o+sel n j * sz),[],none,[]⟩:=by rfl
theorem iaddrA_ept (j:Int):iaddrAR n sz (.ep z es i o) (.t d) (.int k j) =some ⟨[0≤j∧j < n],[],.ep z es i (o+sel n j * sz),[],none,[]⟩:=by rfl
theorem ev_load:evOp Φ (.load n ag x) d p σ=bind1 (av σ p x) (loadR σ.m n ag):=by rfl
theorem load_ptr:loadR m n ag (.ptr r o) =ldB n ag o r (m r):=by
 simp only [loadR]; cases m r with
 | none=>rfl
 | some b=>cases b<;>rfl
theorem load_ep:loadR m n ag (.ep z es i o) =ldV [] (valOf ag n (getE z es i) o):=by
 simp only [loadR]; cases valOf ag n (getE z es i) o<;>rfl
theorem valOf_agg:valOf true n cs off=valB n cs off (decide (off+n≤cs.length)):=by
 simp only [valOf]; by_cases h:off+n≤cs.length
 · rw [if_pos h,decide_eq_true h]; rfl
 · rw [if_neg h,decide_eq_false h]; rfl
theorem valOf_one:valOf false 1 cs off=cs[off]?:=by rfl
theorem ev_store (v:A):evOp Φ (.store n x v) d p σ=bind2 (av σ p x) (av σ p v) (storeR σ.m n):=by rfl
theorem store_ptr:storeR m n (.ptr r o) v=stB n o r (cellsOfAV n v) (m r):=by
 simp only [storeR]; cases cellsOfAV n v with
 | none=>rfl
 | some vs=>cases m r with
   | none=>rfl
   | some b=>cases b with
     | buf=>rfl
     | qb=>rfl
     | ms=>rfl
     | clo=>rfl
     | dead=>rfl
     | cells cs=>
       simp only [stB]
       by_cases h:o+n≤cs.length
       · rw [if_pos h,decide_eq_true h]
       · rw [if_neg h,decide_eq_false h]
theorem setC_nil:setCells cs o [] =cs:=by rfl
theorem setC_cons:setCells cs o (v::vs) =setCells (cs.set o v) (o+1) vs:=by rfl
theorem cells_agg:cellsOfAV n (.agg cs) =if cs.length=n then some cs else none:=by rfl
theorem cells_int (n:Int):cellsOfAV 1 (AV.int k n) =some [(AV.int k n)]:=by rfl
theorem cells_bool (b:Bool):cellsOfAV 1 (AV.bool b) =some [(AV.bool b)]:=by rfl
theorem cells_str (s:List UInt8):cellsOfAV 1 (AV.str s) =some [(AV.str s)]:=by rfl
theorem cells_lst:cellsOfAV 1 (AV.lst z es) =some [(AV.lst z es)]:=by rfl
theorem cells_ptr:cellsOfAV 1 (AV.ptr r o) =some [(AV.ptr r o)]:=by rfl
theorem cells_vw (z l h:Nat):cellsOfAV 1 (AV.vw r z l h) =some [(AV.vw r z l h)]:=by rfl
theorem cells_nil:cellsOfAV 1 AV.nil=some [AV.nil]:=by rfl
theorem ev_alloc:evOp Φ (.alloc z) d p σ=some ⟨[],[],.ptr ((64 * d+64)) 0,[],some ((64 * d+64),.cells z),[]⟩:=by rfl
theorem ev_box:evOp Φ (.box n x) d p σ=bind1 (av σ p x) (boxR n d):=by rfl
theorem boxR_eq:boxR n d v=bxO d (cellsOfAV n v):=by
 simp only [boxR]; cases cellsOfAV n v<;>rfl
theorem ev_build (ps:List (Nat×Nat×A)):evOp Φ (.build z ps) d p σ=blO (fillA σ p z ps):=by
 simp only [evOp]; cases fillA σ p z ps<;>rfl
theorem ev_bslice:evOp Φ (.bslice n z ps) d p σ=blS z (fillS σ p z.length (List.replicate n z) ps):=by
 simp only [evOp]; cases fillS σ p z.length (List.replicate n z) ps<;>rfl
theorem fillA_nil:fillA σ p cs [] =some cs:=by rfl
theorem fillA_cons (ps:List (Nat×Nat×A)):fillA σ p cs ((off,n,x)::ps) =faK σ p cs off n ps (av σ p x):=by
 simp only [fillA]; cases av σ p x<;>rfl
theorem fillS_nil:fillS σ p n es [] =some es:=by rfl
theorem fillS_cons:fillS σ p n es ((i,x)::ps) =fsK σ p n es i ps (av σ p x):=by
 simp only [fillS]; cases av σ p x<;>rfl
theorem ev_call (xs:List A):evOp Φ (.call f xs) d p σ=clE d σ.m (Φ f) (avs σ p xs):=by
 simp only [evOp]; cases avs σ p xs<;>rfl
theorem c0_int (n:Int):AV.clean0 (AV.int k n) =true:=by rfl
theorem c1_int (n:Int):AV.clean1 (AV.int k n) =true:=by rfl
theorem c2_int (n:Int):AV.clean2 (AV.int k n) =true:=by rfl
theorem c0_bool (b:Bool):AV.clean0 (AV.bool b) =true:=by rfl
theorem c1_bool (b:Bool):AV.clean1 (AV.bool b) =true:=by rfl
theorem c2_bool (b:Bool):AV.clean2 (AV.bool b) =true:=by rfl
theorem c0_str (s:List UInt8):AV.clean0 (AV.str s) =true:=by rfl
theorem c0_lst:AV.clean0 (AV.lst z es) =true:=by rfl
theorem c1_lst:AV.clean1 (AV.lst z es) =true:=by rfl
theorem c2_lst:AV.clean2 (AV.lst z es) =true:=by rfl
theorem c0_nil:AV.clean0 AV.nil=true:=by rfl
theorem c2_nil:AV.clean2 AV.nil=true:=by rfl
theorem c1_agg:AV.clean1 (.agg cs) =cs.all AV.clean0:=by rfl
theorem c2_agg:AV.clean2 (.agg cs) =cs.all AV.clean0:=by rfl
theorem c2_tup:AV.clean2 (.tup vs) =vs.all AV.clean1:=by rfl
theorem evC_skip (K:Exit→St→Prop):evC Φ I .skip σ K=K .normal σ:=by rfl
theorem evC_region (ops:List RO)(K:Exit→St→Prop):evC Φ I (.region ops false) σ K=evOps Φ ops σ (kEnd ops K):=by rfl
theorem evC_seq (a b:RC)(K:Exit→St→Prop):evC Φ I (.seq a b) σ K=evC Φ I a σ (kSeq (evC Φ I b) K):=by rfl
theorem evC_cond (c:A)(t e:RC)(K:Exit→St→Prop):evC Φ I (.cond c t e) σ K=condK (evC Φ I t σ K) (evC Φ I e σ K) (ar σ c):=by
 simp only [evC]; cases ar σ c<;>rfl
theorem evC_block (b:RC)(K:Exit→St→Prop):evC Φ I (.block id b) σ K=evC Φ I b σ (kBlk id K):=by rfl
theorem evC_loop (b:RC)(K:Exit→St→Prop):evC Φ I (.loop n b) σ K=(∃ i0,((I n).S i0).ge σ∧(I n).R i0 i0∧∀ i,(I n).R i0 i→evC Φ I b ((I n).S i).st (kLoop (I n) i0 i K)):=by rfl
theorem evC_exit (K:Exit→St→Prop):evC Φ I (.exit id) σ K=K (.exit id) σ:=by rfl
theorem evC_ret (K:Exit→St→Prop):evC Φ I .ret σ K=K .ret σ:=by rfl
theorem kEnd_at (ops:List RO)(K:Exit→St→Prop):kEnd ops K ⟨s,m⟩ =kEndB K s m (hasG ops):=by
 simp only [kEnd,endR]; cases hasG ops<;>rfl
theorem hasG_nil:hasG [] =false:=by rfl
theorem hasG_no (d:Option Nat)(l:List RO):hasG (⟨d,op,none,af⟩::l) =hasG l:=by rfl
theorem hasG_yes (d:Option Nat)(g:Nat×Bool)(l:List RO):hasG (⟨d,op,some g,af⟩::l) =true:=by rfl
theorem kSeq_n (E:St→(Exit→St→Prop)→Prop)(K:Exit→St→Prop):kSeq E K .normal σ=E σ K:=by rfl
theorem kSeq_e (E:St→(Exit→St→Prop)→Prop)(K:Exit→St→Prop):kSeq E K (.exit i) σ=K (.exit i) σ:=by rfl
theorem kSeq_r (E:St→(Exit→St→Prop)→Prop)(K:Exit→St→Prop):kSeq E K .ret σ=K .ret σ:=by rfl
theorem kBlk_n (K:Exit→St→Prop):kBlk id K .normal σ=K .normal σ:=by rfl
theorem kBlk_r (K:Exit→St→Prop):kBlk id K .ret σ=K .ret σ:=by rfl
theorem kBlk_e (K:Exit→St→Prop):kBlk id K (.exit i) σ=kBlkB K i σ (i == id):=by
 simp only [kBlk]; cases (i == id)<;>rfl
theorem kLoop_n (L:LI)(i0 i:L.ι)(K:Exit→St→Prop):kLoop L i0 i K .normal σ=(∃ j,(L.S j).ge σ∧L.R i0 j∧L.μ j < L.μ i):=by rfl
theorem kLoop_e (L:LI)(i0 i:L.ι)(K:Exit→St→Prop)(x:Nat):kLoop L i0 i K (.exit x) σ=K (.exit x) σ:=by rfl
theorem kLoop_r (L:LI)(i0 i:L.ι)(K:Exit→St→Prop):kLoop L i0 i K .ret σ=K .ret σ:=by rfl
theorem kRet_r (r:AV):kRet rv r st cs .ret σ=retOK rv r st cs σ:=by rfl
theorem retL_nil:retL σ [] =some []:=by rfl
theorem retL_cons (r:RV)(rs:List RV):retL σ (r::rs) =consO (retV σ r) (retL σ rs):=by
 simp only [retL]; cases retV σ r<;>cases retL σ rs<;>rfl
theorem retV_t:retV ⟨s,m⟩ (.t n) =some (s n):=by rfl
theorem retV_c (p:Nat):retV ⟨s,m⟩ (.c p n ag) =rvP m n ag (s p):=by
 simp only [retV]; cases s p<;>rfl
theorem initM_f:initM false cs=λ_=>none:=by rfl
theorem initM_t:initM true cs=updM (λ_=>none) 0 (some (.cells cs)):=by rfl
theorem initS_at (k:Nat):initS xs k=xs.getD k .junk:=by rfl
theorem lookL_cons (k:Nat):lookL ((d,v)::l) k=if k=d then v else lookL l k:=by rfl
theorem lookM_nil (k:Nat):lookM [] k=none:=by rfl
theorem lookM_cons (v:Blk)(l:List (Nat×Blk))(k:Nat):lookM ((d,v)::l) k=if k=d then some v else lookM l k:=by rfl
theorem SL_st (b:List (Nat×Blk)):SL.st ⟨l,b⟩ = ⟨lookL l,lookM b⟩:=by rfl
theorem evC_draw (ops:List RO)(K:Exit→St→Prop):evC Φ I (.region ops true) σ K=evD Φ ops 0 [] (preK ops σ) (kEnd ops K):=by rfl
def evDk (Φ:Nat→Option Ctr)(o:RO)(rest:List RO)(n:Nat)(D:List (Nat×Option Nat×Res))(σ:St)(K:St→Prop):Option Res→Prop
 | none=>False
 | some r=>newOK o.dst r∧askL r.pre (pairD D o.after o.dst r (evD Φ rest (n+1) ((n,o.dst,r)::D) (σ.put o.dst r) K))
theorem evD_nil:evD Φ [] n D σ K=knowD D (K σ):=by rfl
theorem evD_cons (o:RO):evD Φ (o::rest) n D σ K=evDk Φ o rest n D σ K (evG Φ o σ):=by
 simp only [evD,evDk]; cases evG Φ o σ<;>rfl
theorem evDk_some (Φ:Nat→Option Ctr)(d:Option Nat)(op:IOp)(g:Option (Nat×Bool))(af:List Nat)(rest:List RO)(n:Nat)(D:List (Nat×Option Nat×Res))(σ:St)(K:St→Prop)(pre post:List Prop)(v:AV)(us:List (Nat×Blk))(nw:Option (Nat×Blk))(t:List Nat):
 evDk Φ ⟨d,op,g,af⟩ rest n D σ K (some ⟨pre,post,v,us,nw,t⟩) =(newOK d ⟨pre,post,v,us,nw,t⟩∧askL pre (pairD D af d ⟨pre,post,v,us,nw,t⟩ (evD Φ rest (n+1) ((n,d,⟨pre,post,v,us,nw,t⟩)::D) (σ.put d ⟨pre,post,v,us,nw,t⟩) K))):=by rfl
theorem newOK_none (d:Option Nat)(t:List Nat):newOK d ⟨pre,post,v,us,none,t⟩ =True:=by cases d<;>rfl
theorem newOK_some (b:Blk)(t:List Nat):newOK (some d) ⟨pre,post,v,us,some (i,b),t⟩ =(i=(64 * d+64)∧deadL us=true∧liveB (killB i b) =some b):=by rfl
theorem pairD_nil (d:Option Nat)(r:Res)(K:Prop):pairD [] af d r K=K:=by rfl
theorem pairD_cons (m:Nat)(d:Option Nat)(r:Res)(K:Prop):pairD ((m,d1,r1)::D) af d r K=(pairOK m d1 r1 af d r∧pairD D af d r K):=by rfl
def pairB (d1:Option Nat)(r1:Res)(d:Option Nat)(r:Res):Bool→Prop
 | true=>True
 | false=>chkR d1 r1 d r=true∧newMen d1 r1 r
theorem pairOK_eq (m:Nat)(d:Option Nat)(r:Res):pairOK m d1 r1 af d r=(newMen d r r1∧pairB d1 r1 d r (af.contains m)):=by
 simp only [pairOK,pairB]; cases af.contains m<;>rfl
theorem pairB_t (d:Option Nat)(r:Res):pairB d1 r1 d r true=True:=by rfl
theorem pairB_f (d:Option Nat)(r:Res):pairB d1 r1 d r false=(chkR d1 r1 d r=true∧newMen d1 r1 r):=by rfl
theorem newMen_none (d:Option Nat)(t:List Nat):newMen d ⟨pre,post,v,us,none,t⟩ r1=True:=by cases d<;>rfl
theorem newMen_some (b:Blk)(t:List Nat):newMen (some d) ⟨pre,post,v,us,some (i,b),t⟩ r1=noMen i r1:=by rfl
def noB (b:Nat):Option (Nat×Blk)→Prop
 | some (_,k)=>killB b k=k
 | none=>True
theorem noMen_eq (nw:Option (Nat×Blk))(t:List Nat):noMen b ⟨pre,post,v,us,nw,t⟩ =(kill3 b v=v∧(us.map λu=>(u.1,killB b u.2)) =us∧((us.map (·.1)).contains b) =false∧noB b nw):=by cases nw<;>rfl
theorem noB_none:noB b none=True:=by rfl
theorem noB_some (k:Blk):noB b (some (i,k)) =(killB b k=k):=by rfl
def newI:Option (Nat×Blk)→Option Nat→List Nat
 | some (i,_),some _=>[i]
 | _,_=>[]
theorem chkR_eq (d1:Option Nat)(pre post:List Prop)(v:AV)(us:List (Nat×Blk))(nw:Option (Nat×Blk))(t:List Nat)(d:Option Nat)(pre' post':List Prop)(v':AV)(us':List (Nat×Blk))(nw':Option (Nat×Blk))(t':List Nat):
 chkR d1 ⟨pre,post,v,us,nw,t⟩ d ⟨pre',post',v',us',nw',t'⟩ =(disjN (pslots v') (optN d1) && disjN (pslots v) (optN d) && disjN (us.map (·.1) ++ newI nw d1) (t' ++ (us'.map (·.1) ++ newI nw' d)) && disjN (us'.map (·.1) ++ newI nw' d) t):=by
 cases nw<;>cases nw'<;>cases d<;>cases d1<;>rfl
theorem newI_none (d:Option Nat):newI none d= []:=by cases d<;>rfl
theorem newI_some (b:Blk):newI (some (i,b)) (some d) = [i]:=by rfl
theorem optN_none:optN none= []:=by rfl
theorem optN_some:optN (some d) = [d]:=by rfl
theorem disjN_nil (l:List Nat):disjN [] l=true:=by rfl
theorem disjN_cons (x:Nat)(xs l:List Nat):disjN (x::xs) l=(!l.contains x && disjN xs l):=by rfl
theorem pslots_gd:pslots (.gd p v) =p.map (·.1):=by rfl
theorem pslots_int (n:Int):pslots (.int k n) = []:=by rfl
theorem pslots_bool (b:Bool):pslots (.bool b) = []:=by rfl
theorem pslots_agg:pslots (.agg cs) = []:=by rfl
theorem pslots_tup:pslots (.tup cs) = []:=by rfl
theorem pslots_lst:pslots (.lst z es) = []:=by rfl
theorem pslots_ep:pslots (.ep z es i o) = []:=by rfl
theorem pslots_ptr:pslots (.ptr r o) = []:=by rfl
theorem pslots_nil:pslots .nil= []:=by rfl
theorem pslots_junk:pslots .junk= []:=by rfl
theorem knowD_nil (K:Prop):knowD [] K=K:=by rfl
theorem knowD_cons (d:Option Nat)(nw:Option (Nat×Blk))(t:List Nat)(K:Prop):knowD ((n,d,⟨pre,post,v,us,nw,t⟩)::D) K=knowL post (knowD D K):=by rfl
theorem preK_nil:preK [] σ=σ:=by rfl
theorem preK_none (l:List RO):preK (⟨none,op,g,af⟩::l) σ=preK l σ:=by rfl
def preB (d:Nat)(l:List RO)(σ:St):Bool→St
 | true=>preK l ⟨killS ((64 * d+64)) σ.s,updM (killM ((64 * d+64)) σ.m) ((64 * d+64)) none⟩
 | false=>preK l σ
theorem preK_some (l:List RO):preK (⟨some d,op,g,af⟩::l) σ=preB d l σ (needD op):=by
 simp only [preK,preB]; cases needD op<;>rfl
theorem preB_t (l:List RO):preB d l ⟨s,m⟩ true=preK l ⟨killS ((64 * d+64)) s,updM (killM ((64 * d+64)) m) ((64 * d+64)) none⟩:=by rfl
theorem preB_f (l:List RO):preB d l σ false=preK l σ:=by rfl
theorem needD_alloc:needD (.alloc z) =true:=by rfl
theorem needD_box:needD (.box n x) =true:=by rfl
theorem needD_mov:needD (.mov x) =false:=by rfl
theorem needD_pick (c a b:A):needD (.pick c a b) =false:=by rfl
theorem needD_arith (op:BinOp)(y:A):needD (.arith op x y) =false:=by rfl
theorem needD_cmp (op:BinOp)(y:A):needD (.cmp op ty x y) =false:=by rfl
theorem needD_eqa (neg:Bool)(sh:List Nat)(y:A):needD (.eqa neg sh x y) =false:=by rfl
theorem needD_not:needD (.not x) =false:=by rfl
theorem needD_conv:needD (.conv k x) =false:=by rfl
theorem needD_len:needD (.len ty x) =false:=by rfl
theorem needD_faddr:needD (.faddr off x) =false:=by rfl
theorem needD_iaddrS (i:A):needD (.iaddrS zero x i) =false:=by rfl
theorem needD_iaddrA (i:A):needD (.iaddrA n sz x i) =false:=by rfl
theorem needD_load:needD (.load n ag x) =false:=by rfl
theorem needD_build (ps:List (Nat×Nat×A)):needD (.build zero ps) =false:=by rfl
theorem needD_bslice (len:Nat):needD (.bslice len zero ps) =false:=by rfl
theorem needD_extract:needD (.extract i x) =false:=by rfl
theorem needD_nilchk:needD (.nilchk x) =false:=by rfl
theorem needD_call (xs:List A):needD (.call f xs) =true:=by rfl
theorem needD_slice (lo hi:Option A):needD (.slice sz x lo hi) =true:=by rfl
theorem needD_mkslice (l c:A):needD (.mkslice e bytes zero l c) =true:=by rfl
theorem needD_copy (y:A):needD (.copy sz x y) =false:=by rfl
def appK (e bytes:Nat)(z:List AV)(i:Nat)(es:List (List AV))(t:List Nat):Option (List (List AV)×List Nat)→Option Res
 | some (ys,t')=>some ⟨[es.length+ys.length≤9223372036854775807,(es.length+ys.length) * bytes≤140737488355328],[],.vw i 0 0 0,[],some (i,.buf e z (es ++ ys)),t ++ t'⟩
 | none=>none
def appV (e bytes:Nat)(z:List AV)(r:Nat)(ys:Option (List (List AV)×List Nat)):Option Blk→Option Res
 | some (.buf t z' es)=>if t=e∧z'.length=z.length∧64≤r then appK e bytes z r es [r] ys else none
 | _=>none
def ysV (k r:Nat):Option Blk→Option (List (List AV)×List Nat)
 | some (.buf _ z es)=>if z.length=k then some (es,[r]) else none
 | _=>none
theorem ev_append (y:A):evOp Φ (.append e bytes z x y) d p σ=bind2 (av σ p x) (av σ p y) (appQR σ.m e bytes z d):=by rfl
theorem appR_nil:appR m e bytes z d .nil y=appK e bytes z ((64 * d+64)) [] [] (ysOf m z.length y):=by
 simp only [appR,baseOf,appK]
 cases ysOf m z.length y with
 | none=>rfl
 | some q=>obtain ⟨ys,t⟩:=q; rfl
theorem appR_vw:appR m e bytes z d (.vw r a b c) y=appV e bytes z r (ysOf m z.length y) (m r):=by
 simp only [appR,baseOf]
 cases hm:m r with
 | none=>rfl
 | some blk=>
   cases blk with
   | cells cs=>rfl
   | dead=>rfl
   | qb=>rfl
   | ms=>rfl
   | clo=>rfl
   | buf t z' es=>
     simp only [appV]
     by_cases hc:t=e∧z'.length=z.length∧64≤r
     · rw [if_pos hc,if_pos hc]
       cases ysOf m z.length y with
       | none=>rfl
       | some q=>obtain ⟨ys,t⟩:=q; rfl
     · rw [if_neg hc,if_neg hc]
theorem appK_some (t:List Nat)(ys:List (List AV)):appK e bytes z i es t (some (ys,t')) =some ⟨[es.length+ys.length≤9223372036854775807,(es.length+ys.length) * bytes≤140737488355328],[],.vw i 0 0 0,[],some (i,.buf e z (es ++ ys)),t ++ t'⟩:=by rfl
theorem appV_buf (e bytes:Nat)(z:List AV)(r:Nat)(ys:Option (List (List AV)×List Nat))(t:Nat)(z':List AV)(es:List (List AV)):appV e bytes z r ys (some (.buf t z' es)) =if t=e∧z'.length=z.length∧64≤r then appK e bytes z r es [r] ys else none:=by rfl
theorem ysOf_nil (k:Nat):ysOf m k .nil=some ([],[]):=by rfl
theorem ysOf_lst (k:Nat):ysOf m k (.lst z es) =if z.length=k then some (es,[]) else none:=by rfl
theorem ysOf_vw (k:Nat):ysOf m k (.vw r a b c) =ysV k r (m r):=by
 simp only [ysOf,ysV]
 cases m r with
 | none=>rfl
 | some blk=>cases blk<;>rfl
theorem ysV_buf (k:Nat):ysV k r (some (.buf t z es)) =if z.length=k then some (es,[r]) else none:=by rfl
theorem killB_buf:killB r (.buf t z es) = .buf t z es:=by rfl
theorem pslots_vw:pslots (.vw r a b c) = []:=by rfl
theorem len_vw:lenM m ty (.vw r a b c) =lenV ty r (m r):=by rfl
theorem lenV_buf:lenV 0 r (some (.buf t z es)) =some ⟨[],[es.length≤9223372036854775807],.int .i64 es.length,[],none,[r]⟩:=by rfl
def flatC:AV→Bool
 | .int _ _ | .bool _ | .str _=>true
 | _=>false
def setB (r0:Nat)(cs:List AV)(σ:St):St:=⟨σ.s,updM σ.m r0 (some (.cells cs))⟩
def putY (d:Nat)(v:AV)(σ:St):St:=⟨upd σ.s d v,σ.m⟩
def lendQ (r lo hi:Nat)(z:List AV)(es:List (List AV)):Bool→Option (AV×List Nat)
 | true=>some (.lst z ((es.drop lo).take (hi - lo)),[r])
 | false=>none
def callD (r:Nat)(bs:List Nat):Bool→Option (Prop×AV×List AV)→Option Res
 | true,x=>callS r bs x
 | false,_=>none
def clQ (q:Prop)(r:AV)(t:List Nat):Bool→Option Res
 | true=>some ⟨[q],[],r,[],none,t⟩
 | false=>none
def clU (r:Nat)(q:Prop)(v:AV)(cs:List AV)(bs:List Nat):Bool→Option Res
 | true=>some ⟨[q],[],v,[(r,.cells cs)],none,r::bs⟩
 | false=>none
def frzP (r:Nat)(z:List AV)(es:List (List AV))(s:Nat→AV)(m:Nat→Option Blk):Bool→St
 | true=>⟨frzSl r z es s,updM (frzM r z es m) r none⟩
 | false=>⟨s,m⟩
def frzO (r:Nat)(z:List AV)(es:List (List AV)):Option Blk→Option Blk
 | none=>none
 | some b=>some (frzB r z es b)
def renO (k R:Nat):Option Blk→Option Blk
 | none=>none
 | some b=>some (renB k R (killB R b))
def renP (k R t:Nat)(z:List AV)(es:List (List AV))(s:Nat→AV)(m:Nat→Option Blk):Bool→St
 | true=>⟨renSl k R s,updM (updM (renM k R m) k none) R (some (.buf t z es))⟩
 | false=>⟨s,m⟩
def nlP (d R T:Nat)(z:List AV)(s:Nat→AV)(m:Nat→Option Blk):Bool→St
 | true=>⟨upd (killS R s) d (.vw R 0 0 0),updM (killM R m) R (some (.buf T z []))⟩
 | false=>⟨s,m⟩
def nlR (r i R T:Nat)(z:List AV)(s:Nat→AV)(m:Nat→Option Blk)(cs:List AV):Bool→St
 | true=>⟨killS R s,updM (updM (killM R m) r (some (.cells ((cs.map (kill0 R)).set i (.vw R 0 0 0))))) R (some (.buf T z []))⟩
 | false=>⟨s,m⟩
def retXG (rv:List RV)(st:Bool)(σ:St)(o:Prop×AV×List AV):Prop:=o.1∧retX rv o.2.1 st o.2.2 σ
def goF (Φ:Nat→Option Ctr)(rest:List RO)(K:St→Prop)(dst:Option Nat)(op:IOp)(g:Option (Nat×Bool))(af:List Nat)(σ:St):Prop:=goOp Φ rest K σ dst (evG Φ ⟨dst,op,g,af⟩ σ)
def evCl (Φ:Nat→Option Ctr)(d f:Nat)(xs:List A)(af:List Nat)(rest:List RO)(σ:St)(K:St→Prop):Option Ctr→Prop
 | some (.ext st ι fn)=>evXV st ι fn d σ (λσ'=>evOps Φ rest σ' K) (avs σ [] xs)
 | some (.gr ι ho fz fn)=>evGX ι ho fn d xs (frzF fz xs σ) (λσ'=>evOps Φ rest σ' K)
 | _=>goOp Φ rest K σ (some d) (evG Φ ⟨some d,.call f xs,none,af⟩ σ)
def blO2 (d e:Nat)(z:List AV):Option (List (List AV))→Option Res
 | some es=>some ⟨[],[],.vw (64 * d+64) 0 0 0,[],some (64 * d+64,.buf e z es),[]⟩
 | none=>none
def ivR (n:Nat)(j:Int):Option AV→Option Res
 | some v=>some ⟨[0≤j∧j < n],[],v,[],none,[]⟩
 | none=>none
def clV (Φ:Nat→Option Ctr)(m:Nat→Option Blk)(fs:List Nat)(x:Option AV)(ys:Option (List AV)):Option Res:=
 match x,ys with
 | some (.fn f),some vs=>match fs.contains f with
   | true=>callR m (Φ f) vs
   | false=>none
 | some (.ap r _ _ _),some vs=>cloV Φ m fs r vs (m r)
 | _,_=>none
def clW (Φ:Nat→Option Ctr)(m:Nat→Option Blk)(f:Nat)(vs:List AV):Bool→Option Res
 | true=>callR m (Φ f) vs
 | false=>none
def shQ (v:AV):Bool→Option Res
 | true=>some ⟨[],[],v,[],none,[]⟩
 | false=>none
def optS:Option AV→Option (Option AV)
 | some v=>some (some v)
 | none=>none
def slL (z:List AV)(es:List (List AV)):Option Int→Option Int→Bool→Option Res
 | some l,some h,true=>some ⟨[0≤l∧l≤h∧h≤es.length],[],.lst z ((es.drop l.toNat).take (h.toNat - l.toNat)),[],none,[]⟩
 | _,_,_=>none
def slV (r sz:Nat)(es:List (List AV)):Option Int→Option Int→Bool→Option Res
 | some l,some h,true=>some ⟨[0≤l∧l≤h∧h≤es.length],[],.sv r sz l.toNat h.toNat,[],none,[r]⟩
 | _,_,_=>none
def iasW (zero:List AV)(r:Nat)(n:Int)(es:List (List AV)):Bool→Option Res
 | true=>some ⟨[0≤n∧n < es.length],[es.length≤9223372036854775807],.bp r zero.length n.toNat 0,[],none,[r]⟩
 | false=>none
def iasX (zero:List AV)(r lo hi:Nat)(n:Int)(es:List (List AV)):Bool→Option Res
 | true=>some ⟨[0≤n∧n < ((hi - lo:Nat):Int)∧lo≤hi∧hi≤es.length],[],.bp r zero.length (lo+n.toNat) 0,[],none,[r]⟩
 | false=>none
def ldP (n:Nat)(ag:Bool)(r s i o:Nat):Option Blk→Option Res
 | some (.buf _ z es)=>match z.length == s,valOf ag n (getE z es i) o with
   | true,some v=>some ⟨[i < es.length],[],v,[],none,[r]⟩
   | _,_=>none
 | some (.qb _ z es)=>match z.length == s,valOf ag n (getE z es i) o with
   | true,some v=>some ⟨[i < es.length],[],v,[],none,[r]⟩
   | _,_=>none
 | _=>none
def ldQ (r i:Nat)(es:List (List AV)):Bool→Option AV→Option Res
 | true,some v=>some ⟨[i < es.length],[],v,[],none,[r]⟩
 | _,_=>none
def stP (n r s i o:Nat)(x:Option (List AV))(y:Option Blk):Option Res:=match x,y with
 | some vs,some (.buf t z es)=>match z.length == s && (vs.all AV.clean0 && decide (o+n≤z.length)) with
  | true=>some ⟨[i < es.length],[],.junk,[(r,.buf t z (es.set i (setCells (getE z es i) o vs)))],none,[r]⟩
  | false=>none
 | _,_=>none
def stQ (r i o:Nat)(vs:List AV)(t:Nat)(z:List AV)(es:List (List AV)):Bool→Option Res
 | true=>some ⟨[i < es.length],[],.junk,[(r,.buf t z (es.set i (setCells (getE z es i) o vs)))],none,[r]⟩
 | false=>none
def ysQ (r lo hi:Nat)(es:List (List AV)):Bool→Option (List (List AV)×List Nat)
 | true=>some ((es.drop lo).take (hi - lo),[r])
 | false=>none
theorem gv_int (n:Int):gv p (AV.int k n) =some (AV.int k n):=by rfl
theorem ungd_int (n:Int):ungd (AV.int k n) =(AV.int k n):=by rfl
theorem kill3_int (n:Int):kill3 q (AV.int k n) =(AV.int k n):=by rfl
theorem kill0_int (n:Int):kill0 q (AV.int k n) =(AV.int k n):=by rfl
theorem frz3_int (n:Int):frz3 q zz ee (AV.int k n) =(AV.int k n):=by rfl
theorem frz0_int (n:Int):frz0 q zz ee (AV.int k n) =(AV.int k n):=by rfl
theorem ren3_int (n:Int):ren3 q R (AV.int k n) =(AV.int k n):=by rfl
theorem ren0_int (n:Int):ren0 q R (AV.int k n) =(AV.int k n):=by rfl
theorem leA_int (n:Int):leA (AV.int k n) y=((AV.int k n) =y):=by rfl
theorem leV1_int (n:Int):leV1 (AV.int k n) y=((AV.int k n) =y):=by rfl
theorem gv_bool (b:Bool):gv p (AV.bool b) =some (AV.bool b):=by rfl
theorem ungd_bool (b:Bool):ungd (AV.bool b) =(AV.bool b):=by rfl
theorem kill3_bool (b:Bool):kill3 q (AV.bool b) =(AV.bool b):=by rfl
theorem kill0_bool (b:Bool):kill0 q (AV.bool b) =(AV.bool b):=by rfl
theorem frz0_bool (b:Bool):frz0 q zz ee (AV.bool b) =(AV.bool b):=by rfl
theorem ren3_bool (b:Bool):ren3 q R (AV.bool b) =(AV.bool b):=by rfl
theorem ren0_bool (b:Bool):ren0 q R (AV.bool b) =(AV.bool b):=by rfl
theorem leA_bool (b:Bool):leA (AV.bool b) y=((AV.bool b) =y):=by rfl
theorem leV1_bool (b:Bool):leV1 (AV.bool b) y=((AV.bool b) =y):=by rfl
theorem gv_str (s:List UInt8):gv p (AV.str s) =some (AV.str s):=by rfl
theorem ungd_str (s:List UInt8):ungd (AV.str s) =(AV.str s):=by rfl
theorem kill0_str (s:List UInt8):kill0 q (AV.str s) =(AV.str s):=by rfl
theorem leA_str (s:List UInt8):leA (AV.str s) y=((AV.str s) =y):=by rfl
theorem leV1_str (s:List UInt8):leV1 (AV.str s) y=((AV.str s) =y):=by rfl
theorem gv_agg:gv p (AV.agg cs) =some (AV.agg cs):=by rfl
theorem ungd_agg:ungd (AV.agg cs) =(AV.agg cs):=by rfl
theorem kill3_agg:kill3 q (AV.agg cs) = .agg (cs.map (kill0 q)):=by rfl
theorem gv_tup:gv p (AV.tup vs) =some (AV.tup vs):=by rfl
theorem gv_lst:gv p (AV.lst z es) =some (AV.lst z es):=by rfl
theorem ungd_lst:ungd (AV.lst z es) =(AV.lst z es):=by rfl
theorem kill3_lst:kill3 q (AV.lst z es) =(AV.lst z es):=by rfl
theorem kill0_lst:kill0 q (AV.lst z es) =(AV.lst z es):=by rfl
theorem frz0_lst:frz0 q zz ee (AV.lst z es) =(AV.lst z es):=by rfl
theorem ren3_lst:ren3 q R (AV.lst z es) =(AV.lst z es):=by rfl
theorem ren0_lst:ren0 q R (AV.lst z es) =(AV.lst z es):=by rfl
theorem leA_lst:leA (AV.lst z es) y=((AV.lst z es) =y):=by rfl
theorem leV1_lst:leV1 (AV.lst z es) y=((AV.lst z es) =y):=by rfl
theorem gv_ep:gv p (AV.ep z es i o) =some (AV.ep z es i o):=by rfl
theorem ungd_ep:ungd (AV.ep z es i o) =(AV.ep z es i o):=by rfl
theorem kill3_ep:kill3 q (AV.ep z es i o) =(AV.ep z es i o):=by rfl
theorem ren3_ep:ren3 q R (AV.ep z es i o) =(AV.ep z es i o):=by rfl
theorem leV1_ep:leV1 (AV.ep z es i o) y=((AV.ep z es i o) =y):=by rfl
theorem gv_ptr:gv p (AV.ptr r o) =some (AV.ptr r o):=by rfl
theorem ungd_ptr:ungd (AV.ptr r o) =(AV.ptr r o):=by rfl
theorem kill3_ptr:kill3 q (AV.ptr r o) =if r=q then .junk else (AV.ptr r o):=by rfl
theorem kill0_ptr:kill0 q (AV.ptr r o) =if r=q then .junk else (AV.ptr r o):=by rfl
theorem frz3_ptr:frz3 q zz ee (AV.ptr r o) =(AV.ptr r o):=by rfl
theorem frz0_ptr:frz0 q zz ee (AV.ptr r o) =(AV.ptr r o):=by rfl
theorem ren3_ptr:ren3 q R (AV.ptr r o) =if r=q then .ptr R o else (AV.ptr r o):=by rfl
theorem ren0_ptr:ren0 q R (AV.ptr r o) =if r=q then .ptr R o else (AV.ptr r o):=by rfl
theorem leA_ptr:leA (AV.ptr r o) y=((AV.ptr r o) =y):=by rfl
theorem leV1_ptr:leV1 (AV.ptr r o) y=((AV.ptr r o) =y):=by rfl
theorem gv_ap:gv p (AV.ap r o n i) =some (AV.ap r o n i):=by rfl
theorem ungd_ap:ungd (AV.ap r o n i) =(AV.ap r o n i):=by rfl
theorem kill3_ap:kill3 q (AV.ap r o n i) =if r=q then .junk else (AV.ap r o n i):=by rfl
theorem frz3_ap:frz3 q zz ee (AV.ap r o n i) =(AV.ap r o n i):=by rfl
theorem leV1_ap:leV1 (AV.ap r o n i) y=((AV.ap r o n i) =y):=by rfl
theorem gv_vw:gv p (AV.vw r a b c) =some (AV.vw r a b c):=by rfl
theorem ungd_vw:ungd (AV.vw r a b c) =(AV.vw r a b c):=by rfl
theorem kill3_vw:kill3 q (AV.vw r a b c) =if r=q then .junk else (AV.vw r a b c):=by rfl
theorem kill0_vw:kill0 q (AV.vw r a b c) =if r=q then .junk else (AV.vw r a b c):=by rfl
theorem frz3_vw:frz3 q zz ee (AV.vw r a b c) =if r=q then .lst zz ee else (AV.vw r a b c):=by rfl
theorem frz0_vw:frz0 q zz ee (AV.vw r a b c) =if r=q then .lst zz ee else (AV.vw r a b c):=by rfl
theorem ren3_vw:ren3 q R (AV.vw r a b c) =if r=q then .vw R a b c else (AV.vw r a b c):=by rfl
theorem ren0_vw:ren0 q R (AV.vw r a b c) =if r=q then .vw R a b c else (AV.vw r a b c):=by rfl
theorem leA_vw:leA (AV.vw r a b c) y=((AV.vw r a b c) =y):=by rfl
theorem leV1_vw:leV1 (AV.vw r a b c) y=((AV.vw r a b c) =y):=by rfl
theorem gv_sv:gv p (AV.sv r a b c) =some (AV.sv r a b c):=by rfl
theorem frz0_sv:frz0 q zz ee (AV.sv r a b c) =if r=q then (if a=zz.length then .lst zz ((ee.drop b).take (c - b)) else .junk) else (AV.sv r a b c):=by rfl
theorem leV1_sv:leV1 (AV.sv r a b c) y=((AV.sv r a b c) =y):=by rfl
theorem gv_bp:gv p (AV.bp r a i o) =some (AV.bp r a i o):=by rfl
theorem gv_fn:gv p (AV.fn f) =some (AV.fn f):=by rfl
theorem leV1_fn:leV1 (AV.fn f) y=((AV.fn f) =y):=by rfl
theorem gv_nil:gv p AV.nil=some AV.nil:=by rfl
theorem ungd_nil:ungd AV.nil=AV.nil:=by rfl
theorem kill3_nil:kill3 q AV.nil=AV.nil:=by rfl
theorem kill0_nil:kill0 q AV.nil=AV.nil:=by rfl
theorem frz0_nil:frz0 q zz ee AV.nil=AV.nil:=by rfl
theorem ren0_nil:ren0 q R AV.nil=AV.nil:=by rfl
theorem gv_junk:gv p AV.junk=some AV.junk:=by rfl
theorem kill3_junk:kill3 q AV.junk=AV.junk:=by rfl
theorem kill0_junk:kill0 q AV.junk=AV.junk:=by rfl
theorem leA_junk:leA AV.junk y=(AV.junk=y):=by rfl
theorem leV1_junk:leV1 AV.junk y=(AV.junk=y):=by rfl
theorem lk0_int (n:Int):lk0 (AV.int k n) y= []:=by cases y<;>rfl
theorem lk0_bool (b:Bool):lk0 (AV.bool b) y= []:=by cases y<;>rfl
theorem lk0_str (s:List UInt8):lk0 (AV.str s) y= []:=by cases y<;>rfl
theorem lk0_vw_lst:lk0 (AV.vw r a b c) (.lst z es) = [.frz r]:=by rfl
theorem lk0_sv_lst:lk0 (AV.sv r a b c) (.lst z es) = [.frz r]:=by rfl
theorem lk0_nil:lk0 (AV.nil) y= []:=by cases y<;>rfl
theorem lk1_int (n:Int):lk1 (AV.int k n) y= []:=by cases y<;>rfl
theorem lk1_bool (b:Bool):lk1 (AV.bool b) y= []:=by cases y<;>rfl
theorem lk1_str (s:List UInt8):lk1 (AV.str s) y= []:=by cases y<;>rfl
theorem lk1_agg:lk1 (.agg xs) (.agg ys) =lkAs xs ys:=by rfl
theorem lk1_lst:lk1 (AV.lst z es) y= []:=by cases y<;>rfl
theorem lk1_ptr:lk1 (AV.ptr r o) y= []:=by cases y<;>rfl
theorem lk1_ap:lk1 (AV.ap r o n i) y= []:=by cases y<;>rfl
theorem lk1_vw_lst:lk1 (AV.vw r a b c) (.lst z es) = [.frz r]:=by rfl
theorem lk1_vw_vw:lk1 (.vw r a b c) (.vw R a1 b1 c1) =renK r R (r == R):=by rfl
theorem lk1_vw_fr (i1:Nat):lk1 (AV.vw r a b c) (AV.fr i1 t1 z1 es1) = []:=by rfl
theorem lk1_vw_nil:lk1 (AV.vw r a b c) (AV.nil) = []:=by rfl
theorem lk1_nil:lk1 (AV.nil) y= []:=by cases y<;>rfl
theorem lk1_junk:lk1 (AV.junk) y= []:=by cases y<;>rfl
theorem lkS_int (n:Int):lkS B d (AV.int k n) y= []:=by cases y<;>rfl
theorem lkS_bool (b:Bool):lkS B d (AV.bool b) y= []:=by cases y<;>rfl
theorem lkS_str (s:List UInt8):lkS B d (AV.str s) y= []:=by cases y<;>rfl
theorem lkS_agg:lkS B d (.agg xs) (.agg ys) =lkAs xs ys:=by rfl
theorem lkS_lst:lkS B d (AV.lst z es) y= []:=by cases y<;>rfl
theorem lkS_ep:lkS B d (AV.ep z es i o) y= []:=by cases y<;>rfl
theorem lkS_ptr:lkS B d (AV.ptr r o) y= []:=by cases y<;>rfl
theorem lkS_ap:lkS B d (AV.ap r o n i) y= []:=by cases y<;>rfl
theorem lkS_vw_vw:lkS B d (.vw r a b c) (.vw R a1 b1 c1) =renK r R (r == R):=by rfl
theorem lkS_vw_nil:lkS B d (AV.vw r a b c) (AV.nil) = []:=by rfl
theorem lkS_sv_sv (r1:Nat):lkS B d (AV.sv r a b c) (AV.sv r1 a1 b1 c1) = []:=by rfl
theorem lkS_fn:lkS B d (AV.fn f) y= []:=by cases y<;>rfl
theorem lkS_nil_vw:lkS B d .nil (.vw R a b c) =nlK d R (B R):=by rfl
theorem lkS_nil_nil:lkS B d .nil (AV.nil) = []:=by rfl
theorem lkC0_int (n:Int):lkC0 B r0 i0 (AV.int k n) y= []:=by cases y<;>rfl
theorem lkC0_bool (b:Bool):lkC0 B r0 i0 (AV.bool b) y= []:=by cases y<;>rfl
theorem lkC0_str (s:List UInt8):lkC0 B r0 i0 (AV.str s) y= []:=by cases y<;>rfl
theorem lkC0_lst:lkC0 B r0 i0 (AV.lst z es) y= []:=by cases y<;>rfl
theorem lkC0_ptr:lkC0 B r0 i0 (AV.ptr r o) y= []:=by cases y<;>rfl
theorem lkC0_vw_vw:lkC0 B r0 i0 (.vw r a b c) (.vw R a1 b1 c1) =renK r R (r == R):=by rfl
theorem lkC0_vw_nil:lkC0 B r0 i0 (AV.vw r a b c) (AV.nil) = []:=by rfl
theorem lkC0_nil_vw:lkC0 B r0 i0 .nil (.vw R a b c) =nlKc r0 i0 R (B R):=by rfl
theorem lkC0_nil_nil:lkC0 B r0 i0 .nil (AV.nil) = []:=by rfl
theorem lkC0_junk:lkC0 B r0 i0 (AV.junk) y= []:=by cases y<;>rfl
theorem unfr0_int (n:Int):unfr0 d (AV.int k n) =AV.int k n:=by rfl
theorem unfr0_bool (b:Bool):unfr0 d (AV.bool b) =AV.bool b:=by rfl
theorem unfr0_str (s:List UInt8):unfr0 d (AV.str s) =AV.str s:=by rfl
theorem unfr1_int (n:Int):unfr1 d (AV.int k n) =AV.int k n:=by rfl
theorem unfr1_fr:unfr1 d (AV.fr i t z es) = .vw (64 * d+64+i) 0 0 0:=by rfl
theorem unfr2_str (s:List UInt8):unfr2 d (AV.str s) =AV.str s:=by rfl
theorem unfr2_agg:unfr2 d (AV.agg cs) = .agg (cs.map (unfr0 d)):=by rfl
theorem unfr2_tup:unfr2 d (AV.tup vs) = .tup (vs.map (unfr1 d)):=by rfl
theorem unfr2_fr:unfr2 d (AV.fr i t z es) = .vw (64 * d+64+i) 0 0 0:=by rfl
theorem unfr2_fp:unfr2 d (AV.fp i cs) = .ptr (64 * d+64+i) 0:=by rfl
theorem unfr2_nil:unfr2 d (AV.nil) =AV.nil:=by rfl
theorem frs0_int (n:Int):frs0 (AV.int k n) = []:=by rfl
theorem frs0_bool (b:Bool):frs0 (AV.bool b) = []:=by rfl
theorem frs0_str (s:List UInt8):frs0 (AV.str s) = []:=by rfl
theorem frs0_lst:frs0 (AV.lst z es) = []:=by rfl
theorem frs1_int (n:Int):frs1 (AV.int k n) = []:=by rfl
theorem frs1_fr:frs1 (AV.fr i t z es) = [(i,.buf t z es)]:=by rfl
theorem frs2_str (s:List UInt8):frs2 (AV.str s) = []:=by rfl
theorem frs2_agg:frs2 (AV.agg cs) =frsL cs:=by rfl
theorem frs2_tup:frs2 (AV.tup vs) =frsV vs:=by rfl
theorem frs2_fr:frs2 (AV.fr i t z es) = [(i,.buf t z es)]:=by rfl
theorem frs2_fp:frs2 (AV.fp i cs) = [(i,.cells cs)]:=by rfl
theorem frs2_nil:frs2 (AV.nil) = []:=by rfl
theorem wfX0_int (n:Int):wfX0 (AV.int k n) =true:=by rfl
theorem wfX0_bool (b:Bool):wfX0 (AV.bool b) =true:=by rfl
theorem wfX0_str (s:List UInt8):wfX0 (AV.str s) =true:=by rfl
theorem wfX0_lst:wfX0 (AV.lst z es) =true:=by rfl
theorem wfX1_int (n:Int):wfX1 (AV.int k n) =true:=by rfl
theorem wfX1_str (s:List UInt8):wfX1 (AV.str s) =true:=by rfl
theorem wfX1_agg:wfX1 (AV.agg cs) =cs.all wfX0:=by rfl
theorem wfX1_fr:wfX1 (AV.fr i t z es) =decide (0 < z.length):=by rfl
theorem wfX1_fp:wfX1 (AV.fp i cs) =cs.all AV.clean0:=by rfl
theorem wfX1_nil:wfX1 (AV.nil) =true:=by rfl
theorem wfX2_str (s:List UInt8):wfX2 (AV.str s) =true:=by rfl
theorem wfX2_agg:wfX2 (AV.agg cs) =cs.all wfX0:=by rfl
theorem wfX2_tup:wfX2 (AV.tup vs) =vs.all wfX1:=by rfl
theorem wfX2_fr:wfX2 (AV.fr i t z es) =decide (0 < z.length):=by rfl
theorem wfX2_fp:wfX2 (AV.fp i cs) =cs.all AV.clean0:=by rfl
theorem wfX2_nil:wfX2 (AV.nil) =true:=by rfl
theorem flatX0_int (n:Int):flatX0 (AV.int k n) =true:=by rfl
theorem flatX0_bool (b:Bool):flatX0 (AV.bool b) =true:=by rfl
theorem flatX0_str (s:List UInt8):flatX0 (AV.str s) =true:=by rfl
theorem flatX1_int (n:Int):flatX1 (AV.int k n) =true:=by rfl
theorem flatX1_fr:flatX1 (AV.fr i t z es) =z.all flatC:=by rfl
theorem flatX2_str (s:List UInt8):flatX2 (AV.str s) =true:=by rfl
theorem flatX2_agg:flatX2 (AV.agg cs) =cs.all flatX0:=by rfl
theorem flatX2_tup:flatX2 (AV.tup vs) =vs.all flatX1:=by rfl
theorem flatX2_fr:flatX2 (AV.fr i t z es) =z.all flatC:=by rfl
theorem flatX2_fp:flatX2 (AV.fp i cs) =cs.all AV.flat0:=by rfl
theorem flatX2_nil:flatX2 (AV.nil) =true:=by rfl
theorem flat0_int (n:Int):AV.flat0 (AV.int k n) =true:=by rfl
theorem flat0_bool (b:Bool):AV.flat0 (AV.bool b) =true:=by rfl
theorem flat0_lst:AV.flat0 (AV.lst z es) =false:=by rfl
theorem flat1_int (n:Int):AV.flat1 (AV.int k n) =true:=by rfl
theorem flat1_bool (b:Bool):AV.flat1 (AV.bool b) =true:=by rfl
theorem flat1_agg:AV.flat1 (AV.agg cs) =cs.all AV.flat0:=by rfl
theorem flat1_lst:AV.flat1 (AV.lst z es) =false:=by rfl
theorem flat2_int (n:Int):AV.flat2 (AV.int k n) =true:=by rfl
theorem flat2_bool (b:Bool):AV.flat2 (AV.bool b) =true:=by rfl
theorem flat2_agg:AV.flat2 (AV.agg cs) =cs.all AV.flat0:=by rfl
theorem flat2_tup:AV.flat2 (AV.tup vs) =vs.all AV.flat1:=by rfl
theorem flat2_lst:AV.flat2 (AV.lst z es) =false:=by rfl
theorem flat2_nil:AV.flat2 (AV.nil) =true:=by rfl
theorem flatC_int (n:Int):flatC (.int k n) =true:=by rfl
theorem lendA_int (n:Int):lendA m (AV.int k n) =some (AV.int k n,[]):=by rfl
theorem lendA_bool (b:Bool):lendA m (AV.bool b) =some (AV.bool b,[]):=by rfl
theorem lendA_str (s:List UInt8):lendA m (AV.str s) =some (AV.str s,[]):=by rfl
theorem lendA_lst:lendA m (AV.lst z es) =some (AV.lst z es,[]):=by rfl
theorem lendA_nil:lendA m (AV.nil) =some (AV.nil,[]):=by rfl
theorem lend1_int (n:Int):lend1 m (AV.int k n) =some (AV.int k n,[]):=by rfl
theorem lend1_bool (b:Bool):lend1 m (AV.bool b) =some (AV.bool b,[]):=by rfl
theorem lend1_str (s:List UInt8):lend1 m (AV.str s) =some (AV.str s,[]):=by rfl
theorem lend1_agg:lend1 m (AV.agg cs) =aggL (lendC m cs):=by rfl
theorem lend1_lst:lend1 m (AV.lst z es) =some (AV.lst z es,[]):=by rfl
theorem lend1_sv:lend1 m (AV.sv r a b c) =lendP r a b c (m r):=by rfl
theorem lend1_nil:lend1 m (AV.nil) =some (AV.nil,[]):=by rfl
theorem vws0_int (n:Int):vws0 (AV.int k n) = []:=by rfl
theorem vws0_bool (b:Bool):vws0 (AV.bool b) = []:=by rfl
theorem vws0_str (s:List UInt8):vws0 (AV.str s) = []:=by rfl
theorem vws0_ptr:vws0 (AV.ptr r o) = []:=by rfl
theorem vws0_vw:vws0 (AV.vw r a b c) = [r]:=by rfl
theorem vws0_nil:vws0 (AV.nil) = []:=by rfl
theorem vws1_int (n:Int):vws1 (AV.int k n) = []:=by rfl
theorem vws1_bool (b:Bool):vws1 (AV.bool b) = []:=by rfl
theorem vws1_agg:vws1 (AV.agg cs) =vwsL cs:=by rfl
theorem vws1_lst:vws1 (AV.lst z es) = []:=by rfl
theorem vws1_ptr:vws1 (AV.ptr r o) = []:=by rfl
theorem vws1_ap:vws1 (AV.ap r o n i) = []:=by rfl
theorem vws1_vw:vws1 (AV.vw r a b c) = [r]:=by rfl
theorem vws1_nil:vws1 (AV.nil) = []:=by rfl
theorem vwsT_ptr:vwsT v (AV.ptr r o) = []:=by rfl
theorem vwsT_bp:vwsT v (AV.bp r a i o) =vws1 v:=by rfl
theorem leX0_int (x:AV)(n:Int):leX0 m x (AV.int k n) =leA x (AV.int k n):=by cases x<;>rfl
theorem leX1_int (x:AV)(n:Int):leX1 m x (AV.int k n) =leA x (AV.int k n):=by cases x<;>rfl
theorem pq0_int (x:AV)(n:Int):pq0 x (AV.int k n) = []:=by cases x<;>rfl
theorem pq1_int (x:AV)(n:Int):pq1 x (AV.int k n) = []:=by cases x<;>rfl
theorem leX0_bool (x:AV)(b:Bool):leX0 m x (AV.bool b) =leA x (AV.bool b):=by cases x<;>rfl
theorem pq0_bool (x:AV)(b:Bool):pq0 x (AV.bool b) = []:=by cases x<;>rfl
theorem leX0_str (x:AV)(s:List UInt8):leX0 m x (AV.str s) =leA x (AV.str s):=by cases x<;>rfl
theorem leX1_str (x:AV)(s:List UInt8):leX1 m x (AV.str s) =leA x (AV.str s):=by cases x<;>rfl
theorem pq0_str (x:AV)(s:List UInt8):pq0 x (AV.str s) = []:=by cases x<;>rfl
theorem pq1_str (x:AV)(s:List UInt8):pq1 x (AV.str s) = []:=by cases x<;>rfl
theorem leX0_lst (x:AV):leX0 m x (AV.lst z es) =leA x (AV.lst z es):=by cases x<;>rfl
theorem pq0_lst (x:AV):pq0 x (AV.lst z es) = []:=by cases x<;>rfl
theorem leX1_nil (x:AV):leX1 m x (AV.nil) =leA x (AV.nil):=by cases x<;>rfl
theorem pq1_nil (x:AV):pq1 x (AV.nil) = []:=by cases x<;>rfl
theorem leX1_fr_vw:leX1 m (.vw r a b c) (.fr j t z es) =leFB (m r) t z es:=by rfl
theorem leX1_fr_nil:leX1 m .nil (.fr j t z es) =(es= []):=by rfl
theorem leX1_fp:leX1 m (.ptr r 0) (.fp j cs) =leFC (m r) cs:=by rfl
theorem pq1_fr_vw:pq1 (.vw r a b c) (.fr j t z es) = [(j,some r)]:=by rfl
theorem pq1_fr_nil:pq1 .nil (.fr j t z es) = [(j,none)]:=by rfl
theorem pq1_fp:pq1 (.ptr r o) (.fp j cs) = [(j,some r)]:=by rfl
theorem leX1_agg:leX1 m (.agg xs) (.agg ys) =leXs m xs ys:=by rfl
theorem pq1_agg:pq1 (.agg xs) (.agg ys) =pqL xs ys:=by rfl
theorem evXV_some (st:Bool)(ι:Type)(fn:List AV→List AV→Option (Prop×(ι→Prop×AV×List AV)))(d:Nat)(σ:St)(K:St→Prop)(vs:List AV):evXV st ι fn d σ K (some vs) =evX st ι fn d vs σ K:=by rfl
theorem evX_f (ι:Type)(fn:List AV→List AV→Option (Prop×(ι→Prop×AV×List AV)))(d:Nat)(vs:List AV)(s:Nat→AV)(m:Nat→Option Blk)(K:St→Prop):evX false ι fn d vs ⟨s,m⟩ K=evXA ι fn d ⟨s,m⟩ K (lends m vs):=by rfl
theorem evX_t (ι:Type)(fn:List AV→List AV→Option (Prop×(ι→Prop×AV×List AV)))(d r:Nat)(vs:List AV)(s:Nat→AV)(m:Nat→Option Blk)(K:St→Prop):evX true ι fn d (.ptr r 0::vs) ⟨s,m⟩ K=evXC ι fn r d vs ⟨s,m⟩ K (m r):=by rfl
theorem evXA_some (ι:Type)(fn:List AV→List AV→Option (Prop×(ι→Prop×AV×List AV)))(d:Nat)(σ:St)(K:St→Prop)(vs:List AV)(bs:List Nat):evXA ι fn d σ K (some (vs,bs)) =evXN ι d bs σ K (fn [] vs):=by rfl
theorem evXC_cells (ι:Type)(fn:List AV→List AV→Option (Prop×(ι→Prop×AV×List AV)))(r d:Nat)(vs:List AV)(s:Nat→AV)(m:Nat→Option Blk)(K:St→Prop)(cs:List AV):evXC ι fn r d vs ⟨s,m⟩ K (some (.cells cs)) =evXB ι fn r d cs ⟨s,m⟩ K (lends m vs):=by rfl
theorem evXB_some (ι:Type)(fn:List AV→List AV→Option (Prop×(ι→Prop×AV×List AV)))(r d:Nat)(cs:List AV)(σ:St)(K:St→Prop)(vs:List AV)(bs:List Nat):evXB ι fn r d cs σ K (some (vs,bs)) =(cs.all AV.clean0=true∧evXM ι r d bs σ K (fn cs vs)):=by rfl
theorem evXN_some (ι:Type)(q:Prop)(g:ι→Prop×AV×List AV):evXN ι d bs σ K (some (q,g)) =(q∧∀ i,evXP d bs σ K (g i)):=by rfl
theorem evXM_some (ι:Type)(q:Prop)(g:ι→Prop×AV×List AV):evXM ι r d bs σ K (some (q,g)) =(q∧∀ i,evXS r d bs σ K (g i)):=by rfl
theorem evXP_eq (p:Prop)(r:AV):evXP d bs σ K (p,r,cs) =(p→(wfX2 r && idsOK (frs2 r)) =true∧backX bs (flatX2 r) (flatL (frs2 r)) σ λσ=>K (putX d r σ)):=by rfl
theorem evXS_eq (p:Prop)(r:AV):evXS r0 d bs ⟨s,m⟩ K (p,r,cs) =(p→(wfX2 r && (idsOK (frs2 r) && cs.all AV.clean0)) =true∧backX bs (flatX2 r && cs.all AV.flat0) (flatL (frs2 r)) ⟨s,m⟩ λσ=>K (putX d r (setB r0 cs σ))):=by rfl
theorem setB_eq:setB r0 cs ⟨s,m⟩ = ⟨s,updM m r0 (some (.cells cs))⟩:=by rfl
theorem backX_nil (f:Bool)(fl:Prop):backX [] f fl σ K=K σ:=by rfl
theorem backX_t (fl:Prop):backX (b::bs) true fl σ K=(fl∧K σ):=by rfl
theorem putX_eq (r:AV):putX d r ⟨s,m⟩ =putY d (unfr2 d r) (addF d (frs2 r) ⟨s,m⟩):=by rfl
theorem putY_eq:putY d v ⟨s,m⟩ = ⟨upd s d v,m⟩:=by rfl
theorem addF_nil:addF d [] σ=σ:=by rfl
theorem addF_cons (b:Blk)(l:List (Nat×Blk)):addF d ((j,b)::l) ⟨s,m⟩ =addF d l ⟨killS (64 * d+64+j) s,updM (killM (64 * d+64+j) m) (64 * d+64+j) (some b)⟩:=by rfl
theorem frsL_nil:frsL [] = []:=by rfl
theorem frsL_cons (x:AV):frsL (x::xs) =frs0 x ++ frsL xs:=by rfl
theorem frsV_nil:frsV [] = []:=by rfl
theorem frsV_cons (x:AV):frsV (x::xs) =frs1 x ++ frsV xs:=by rfl
theorem flatL_nil:flatL [] =True:=by rfl
theorem flatL_buf (l:List (Nat×Blk)):flatL ((j,.buf t z es)::l) =(FlatE es∧flatL l):=by rfl
theorem flatL_cells (l:List (Nat×Blk)):flatL ((j,.cells cs)::l) =flatL l:=by rfl
theorem nodupN_nil:nodupN [] =true:=by rfl
theorem nodupN_cons (x:Nat)(xs:List Nat):nodupN (x::xs) =(!xs.contains x && nodupN xs):=by rfl
theorem idsOK_eq (l:List (Nat×Blk)):idsOK l=(nodupN (l.map (·.1)) && (l.map (·.1)).all λj=>decide (j < 64)):=by rfl
theorem lendC_nil:lendC m [] =some ([],[]):=by rfl
theorem lendC_cons (x:AV):lendC m (x::xs) =consL (lendA m x) (lendC m xs):=by rfl
theorem lends_nil:lends m [] =some ([],[]):=by rfl
theorem lends_cons (x:AV):lends m (x::xs) =consL (lend1 m x) (lends m xs):=by rfl
theorem consL_some' (b:List Nat):consL (some (v,b)) (some (vs,bs)) =some (v::vs,b ++ bs):=by rfl
theorem aggL_some (b:List Nat):aggL (some (cs,b)) =some (.agg cs,b):=by rfl
theorem lendB_buf:lendB r (some (.buf t z es)) =some (.lst z es,[r]):=by rfl
theorem lendP_buf:lendP r sz lo hi (some (.buf t z es)) =lendQ r lo hi z es (z.length == sz):=by simp only [lendP,lendQ]; cases (z.length == sz)<;>rfl
theorem lendQ_t:lendQ r lo hi z es true=some (.lst z ((es.drop lo).take (hi - lo)),[r]):=by rfl
theorem call_pure:callR m (some (.mk false fn)) vs=callN fn (lendsX m vs):=by rfl
theorem callN_some:callN fn (some (vs,bs)) =callP [] bs (fn [] vs):=by rfl
theorem callC_cells:callC m fn r vs (some (.cells cs)) =callB fn r cs (lends m vs):=by rfl
theorem callB_some:callB fn r cs (some (vs,bs)) =callD r bs (cs.all AV.clean0) (fn cs vs):=by simp only [callB,callD]; cases cs.all AV.clean0<;>rfl
theorem callD_t (x:Option (Prop×AV×List AV)):callD r bs true x=callS r bs x:=by rfl
theorem callP_some (t:List Nat)(q:Prop)(r:AV):callP t bs (some (q,r,cs)) =clQ q r (t ++ bs) (r.clean2 && backOK bs r.flat2):=by simp only [callP,clQ]; cases (r.clean2 && backOK bs r.flat2)<;>rfl
theorem clQ_t (q:Prop)(r:AV)(t:List Nat):clQ q r t true=some ⟨[q],[],r,[],none,t⟩:=by rfl
theorem callS_some (q:Prop):callS r bs (some (q,v,cs)) =clU r q v cs bs (v.clean2 && (cs.all AV.clean0 && backOK bs (v.flat2 && cs.all AV.flat0))):=by simp only [callS,clU]; cases (v.clean2 && (cs.all AV.clean0 && backOK bs (v.flat2 && cs.all AV.flat0)))<;>rfl
theorem clU_t (q:Prop):clU r q v cs bs true=some ⟨[q],[],v,[(r,.cells cs)],none,r::bs⟩:=by rfl
theorem backOK_nil (f:Bool):backOK [] f=true:=by rfl
theorem backOK_cons (f:Bool):backOK (b::bs) f=f:=by rfl
theorem frzL_nil:frzL [] σ=σ:=by rfl
theorem frzL_cons (rs:List Nat):frzL (r::rs) ⟨s,m⟩ =frzL rs (frzQ r s m (m r)):=by rfl
theorem frzQ_buf:frzQ r s m (some (.buf t z es)) =frzP r z es s m (decide (64≤r)):=by simp only [frzQ,frzP]; cases decide (64≤r)<;>rfl
theorem frzP_t:frzP r z es s m true= ⟨frzSl r z es s,updM (frzM r z es m) r none⟩:=by rfl
theorem frzSl_at (k:Nat):frzSl r z es s k=frz3 r z es (s k):=by rfl
theorem frzM_at (k:Nat):frzM r z es m k=frzO r z es (m k):=by simp only [frzM,frzO]; cases m k<;>rfl
theorem frzO_none:frzO r z es none=none:=by rfl
theorem frzO_some (b:Blk):frzO r z es (some b) =some (frzB r z es b):=by rfl
theorem frzB_cells:frzB r z es (.cells cs) = .cells (cs.map (frz0 r z es)):=by rfl
theorem frzB_buf:frzB r z es (.buf t1 z1 es1) = .buf t1 z1 es1:=by rfl
theorem renSl_at (k:Nat):renSl k R s i=ren3 k R (kill3 R (s i)):=by rfl
theorem renM_at (k:Nat):renM k R m i=renO k R (m i):=by simp only [renM,renO]; cases m i<;>rfl
theorem renO_cells (k:Nat):renO k R (some (.cells cs)) =some (.cells ((cs.map (kill0 R)).map (ren0 k R))):=by rfl
theorem renO_buf (k:Nat):renO k R (some (.buf t z es)) =some (.buf t z es):=by rfl
theorem applyL_nil:applyL [] σ=σ:=by rfl
theorem applyL_frz (k:Nat):applyL (.frz k::ls) ⟨s,m⟩ =applyL ls (frzQ k s m (m k)):=by rfl
theorem applyL_ren (k:Nat):applyL (.ren k R::ls) ⟨s,m⟩ =applyL ls (renQ k R s m (m k)):=by rfl
theorem applyL_nls:applyL (.nls d R T z::ls) ⟨s,m⟩ =applyL ls (nlV d R T z s m (s d)):=by rfl
theorem applyL_nlc:applyL (.nlc r i R T z::ls) ⟨s,m⟩ =applyL ls (nlC1 r i R T z s m (m r)):=by rfl
theorem renQ_buf (k:Nat):renQ k R s m (some (.buf t z es)) =renP k R t z es s m (decide (64≤R) && (decide (64≤k) && !(k == R))):=by simp only [renQ,renP]; cases (decide (64≤R) && (decide (64≤k) && !(k == R)))<;>rfl
theorem renP_t (k:Nat):renP k R t z es s m true= ⟨renSl k R s,updM (updM (renM k R m) k none) R (some (.buf t z es))⟩:=by rfl
theorem nlV_nil:nlV d R T z s m .nil=nlP d R T z s m (decide (64≤R) && decide (0 < z.length)):=by simp only [nlV,nlP]; cases (decide (64≤R) && decide (0 < z.length))<;>rfl
theorem nlP_t:nlP d R T z s m true= ⟨upd (killS R s) d (.vw R 0 0 0),updM (killM R m) R (some (.buf T z []))⟩:=by rfl
theorem nlC1_cells:nlC1 r i R T z s m (some (.cells cs)) =nlC2 r i R T z s m cs cs[i]?:=by rfl
theorem nlC2_nil:nlC2 r i R T z s m cs (some .nil) =nlR r i R T z s m cs (decide (64≤R) && (decide (0 < z.length) && !(r == R))):=by simp only [nlC2,nlR]; cases (decide (64≤R) && (decide (0 < z.length) && !(r == R)))<;>rfl
theorem nlR_t:nlR r i R T z s m cs true= ⟨killS R s,updM (updM (killM R m) r (some (.cells ((cs.map (kill0 R)).set i (.vw R 0 0 0))))) R (some (.buf T z []))⟩:=by rfl
theorem renK_t (k:Nat):renK k R true= []:=by rfl
theorem renK_f (k:Nat):renK k R false= [.ren k R]:=by rfl
theorem nlK_buf:nlK d R (some (.buf T z es)) = [.nls d R T z]:=by rfl
theorem nlKc_buf:nlKc r i R (some (.buf T z es)) = [.nlc r i R T z]:=by rfl
theorem lkAs_nil:lkAs [] [] = []:=by rfl
theorem lkAs_cons (x:AV):lkAs (x::xs) (y::ys) =lk0 x y ++ lkAs xs ys:=by rfl
theorem lkVs_nil:lkVs [] [] = []:=by rfl
theorem lkVs_cons (x:AV):lkVs (x::xs) (y::ys) =lk1 x y ++ lkVs xs ys:=by rfl
theorem lkC_nil:lkC B r i [] [] = []:=by rfl
theorem lkC_cons (x:AV):lkC B r i (x::xs) (y::ys) =lkC0 B r i x y ++ lkC B r (i+1) xs ys:=by rfl
theorem lkB_cells:lkB B r (some (.cells cs)) (.cells ds) =lkC B r 0 cs ds:=by rfl
theorem lkB_buf (x:Option Blk):lkB B r x (.buf t z es) = []:=by cases x with | none=>rfl | some b=>cases b<;>rfl
theorem lkL_nil:lkL B s [] = []:=by rfl
theorem lkL_cons:lkL B s ((d,v)::l) =lkS B d (s d) v ++ lkL B s l:=by rfl
theorem lkM_nil:lkM B m [] = []:=by rfl
theorem lkM_cons (b:Blk)(l:List (Nat×Blk)):lkM B m ((r,b)::l) =lkB B r (m r) b ++ lkM B m l:=by rfl
theorem SL_ge (b:List (Nat×Blk)):SL.ge ⟨l,b⟩ ⟨s,m⟩ =SL.ge1 ⟨l,b⟩ (applyL (mvL s l) ⟨s,m⟩):=by rfl
theorem SL_ge1 (b:List (Nat×Blk)):SL.ge1 ⟨l,b⟩ ⟨s,m⟩ =SL.ge0 ⟨l,b⟩ (applyL (lkL (lookM b) s l ++ lkM (lookM b) m b) ⟨s,m⟩):=by rfl
theorem mvL_nil:mvL s [] = []:=by rfl
theorem mvL_cons:mvL s ((d,v)::l) =mv0 (s d) v ++ mvL s l:=by rfl
theorem mv0_pp (k o':Nat):mv0 (.ptr k o) (.ptr R o') =renK k R (k == R):=by rfl
theorem mv0_int (x:AV)(n:Int):mv0 x (.int k n) = []:=by cases x<;>rfl
theorem mv0_bool (x:AV)(b:Bool):mv0 x (.bool b) = []:=by cases x<;>rfl
theorem mv0_str (x:AV)(b:List UInt8):mv0 x (.str b) = []:=by cases x<;>rfl
theorem mv0_agg (x:AV):mv0 x (.agg cs) = []:=by cases x<;>rfl
theorem mv0_lst (x:AV):mv0 x (.lst z es) = []:=by cases x<;>rfl
theorem mv0_ep (x:AV):mv0 x (.ep z es i o) = []:=by cases x<;>rfl
theorem mv0_vw (x:AV):mv0 x (.vw r a b c) = []:=by cases x<;>rfl
theorem mv0_sv (x:AV):mv0 x (.sv r a b c) = []:=by cases x<;>rfl
theorem mv0_ap (x:AV):mv0 x (.ap r a b c) = []:=by cases x<;>rfl
theorem mv0_fn (x:AV):mv0 x (.fn f) = []:=by cases x<;>rfl
theorem mv0_nil (x:AV):mv0 x .nil= []:=by cases x<;>rfl
theorem SL_ge0 (b:List (Nat×Blk)):SL.ge0 ⟨l,b⟩ ⟨s,m⟩ =(leL s l∧leM m b):=by rfl
theorem leL_nil:leL s [] =True:=by rfl
theorem leL_cons:leL s ((d,v)::l) =(leV1 (s d) v∧leL s l):=by rfl
theorem leM_nil:leM m [] =True:=by rfl
theorem leM_cons (b:Blk)(l:List (Nat×Blk)):leM m ((r,b)::l) =(leB (m r) b∧leM m l):=by rfl
theorem leB_cells:leB (some (.cells cs)) (.cells ds) =leAs cs ds:=by rfl
theorem leB_buf:leB (some (.buf t z es)) (.buf t1 z1 es1) =(t=t1∧z=z1∧es=es1):=by rfl
theorem lkR_one (r:AV):lkR (some [v]) r=lk1 v r:=by rfl
theorem lkR_two (x:AV):lkR (some (x::y::zs)) (.tup ys) =lkVs (x::y::zs) ys:=by rfl
theorem lkT_f:lkT false m cs= []:=by rfl
theorem lkT_t:lkT true m cs=lkB (λ_=>none) 0 (m 0) (.cells cs):=by rfl
theorem retOK_eq (r:AV):retOK rv r st cs ⟨s,m⟩ =retOK0 rv r st cs (applyL (lkR (retL ⟨s,m⟩ rv) r ++ lkT st m cs) ⟨s,m⟩):=by rfl
theorem retOK_f (r:AV):retOK0 rv r false cs ⟨s,m⟩ =(rtO r (retL ⟨s,m⟩ rv)∧True):=by simp only [retOK0]; cases retL ⟨s,m⟩ rv<;>rfl
theorem retOK_t (r:AV):retOK0 rv r true cs ⟨s,m⟩ =(rtO r (retL ⟨s,m⟩ rv)∧rtM cs (m 0)):=by
 simp only [retOK0]; cases retL ⟨s,m⟩ rv<;>cases m 0 with
 | none=>rfl
 | some b=>cases b<;>rfl
theorem kRetX_r {ι:Type}(rv:List RV)(st:Bool)(g:ι→Prop×AV×List AV)(σ:St):kRetX rv st g .ret σ= ∃ i,retXG rv st σ (g i):=by rfl
theorem retXG_eq (p:Prop)(r:AV):retXG rv st σ (p,r,cs) =(p∧retX rv r st cs σ):=by rfl
theorem retX_eq (r:AV):retX rv r st cs ⟨s,m⟩ =retX0 rv r st cs (applyL (lkR (retL ⟨s,m⟩ rv) r ++ lkT st m cs) ⟨s,m⟩):=by rfl
theorem retX0_eq (r:AV):retX0 rv r st cs ⟨s,m⟩ =(resXO m r (retL ⟨s,m⟩ rv)∧resXT st cs (m 0)):=by rfl
theorem resXO_some (r:AV):resXO m r (some vs) =(resX m vs r∧(nodupN (pqK (pqR vs r)) && ((pqK (pqR vs r)).all (λk=>decide (64≤k)) && (idsOK (frs2 r) && wfRes vs r))) =true):=by rfl
theorem wfRes_one (r:AV):wfRes [v] r=wfX1 r:=by rfl
theorem wfRes_two (x r:AV):wfRes (x::y::zs) r=wfX2 r:=by rfl
theorem resX_one (r:AV):resX m [v] r=leX1 m v r:=by rfl
theorem resX_two (x:AV):resX m (x::y::zs) (.tup ys) =leXV m (x::y::zs) ys:=by rfl
theorem leXV_nil:leXV m [] [] =True:=by rfl
theorem leXV_cons (x:AV):leXV m (x::xs) (y::ys) =(leX1 m x y∧leXV m xs ys):=by rfl
theorem leXs_nil:leXs m [] [] =True:=by rfl
theorem leXs_cons (x:AV):leXs m (x::xs) (y::ys) =(leX0 m x y∧leXs m xs ys):=by rfl
theorem pqR_one (r:AV):pqR [v] r=pq1 v r:=by rfl
theorem pqR_two (x:AV):pqR (x::y::zs) (.tup ys) =pqV (x::y::zs) ys:=by rfl
theorem pqV_nil:pqV [] [] = []:=by rfl
theorem pqV_cons (x:AV):pqV (x::xs) (y::ys) =pq1 x y ++ pqV xs ys:=by rfl
theorem pqL_nil:pqL [] [] = []:=by rfl
theorem pqL_cons (x:AV):pqL (x::xs) (y::ys) =pq0 x y ++ pqL xs ys:=by rfl
theorem pqK_nil:pqK [] = []:=by rfl
theorem pqK_some (k:Nat)(l:List (Nat×Option Nat)):pqK ((j,some k)::l) =k::pqK l:=by rfl
theorem pqK_none (l:List (Nat×Option Nat)):pqK ((j,none)::l) =pqK l:=by rfl
theorem leFB_buf:leFB (some (.buf t z es)) t1 z1 es1=(t=t1∧z=z1∧es=es1):=by rfl
theorem leFC_cells:leFC (some (.cells cs)) ds=leAs cs ds:=by rfl
theorem resXT_f (b:Option Blk):resXT false cs b=True:=by
 cases b with
 | none=>exact propext (iff_true_intro rfl)
 | some b=>cases b<;>first | exact propext (iff_true_intro (.inl rfl)) | exact propext (iff_true_intro rfl)
theorem resXT_t:resXT true cs (some (.cells ds)) =leAs ds cs:=by simp [resXT]
theorem condK_nb (t e:Prop)(b:Bool):condK t e (.nb b) =((b=true→t)∧e):=by rfl
theorem vwsL_nil:vwsL [] = []:=by rfl
theorem vwsL_cons (x:AV):vwsL (x::xs) =vws0 x ++ vwsL xs:=by rfl
theorem vwsG_nil:vwsG σ [] = []:=by rfl
theorem vwsG_cons:vwsG σ ((i,x)::ps) =vws1 (ar σ x) ++ vwsG σ ps:=by rfl
theorem goF_eq:goF Φ rest K dst op g af ⟨s,m⟩ =goOp Φ rest K ⟨s,m⟩ dst (evG Φ ⟨dst,op,g,af⟩ ⟨s,m⟩):=by rfl
theorem eo_store (v:A):evOps Φ (⟨dst,.store n x v,g,af⟩::rest) σ K=goF Φ rest K dst (.store n x v) g af (frzL (vwsT (ar σ v) (ar σ x)) σ):=by
 cases dst<;>cases g<;>(simp only [evOps,strOf,extOf,preF,goF,goOp]; cases evG Φ _ _<;>rfl)
theorem eo_bslice:evOps Φ (⟨dst,.bslice n z ps,g,af⟩::rest) σ K=goF Φ rest K dst (.bslice n z ps) g af (frzL (vwsG σ ps) σ):=by
 cases dst<;>cases g<;>(simp only [evOps,strOf,extOf,preF,goF,goOp]; cases evG Φ _ _<;>rfl)
theorem eo_bsliceO:evOps Φ (⟨dst,.bsliceO e n z ps,g,af⟩::rest) σ K=goF Φ rest K dst (.bsliceO e n z ps) g af (frzL (vwsG σ ps) σ):=by
 cases dst<;>cases g<;>(simp only [evOps,strOf,extOf,preF,goF,goOp]; cases evG Φ _ _<;>rfl)
theorem eo_call (xs:List A):evOps Φ (⟨some d,.call f xs,none,af⟩::rest) σ K=evCl Φ d f xs af rest σ K (Φ f):=by
 simp only [evOps,strOf,extOf,evCl,preF,frzL,goOp]
 cases h:Φ f with
 | none=>simp only []; cases evG Φ _ _<;>rfl
 | some c=>cases c with
   | mk st fn=>simp only []; cases evG Φ _ _<;>rfl
   | ext st ι fn=>rfl
   | gr ι ho fz fn=>rfl
   | own T z fn=>simp only []; cases evG Φ _ _<;>rfl
theorem evCl_mk (xs:List A):evCl Φ d f xs af rest σ K (some (.mk st fn)) =goOp Φ rest K σ (some d) (evG Φ ⟨some d,.call f xs,none,af⟩ σ):=by rfl
def evOpsk (Φ:Nat→Option Ctr)(rest:List RO)(K:St→Prop):St→Prop:=λσ=>evOps Φ rest σ K
theorem evOpsk_at:evOpsk Φ rest K σ=evOps Φ rest σ K:=by rfl
theorem kN_at (K:Exit→St→Prop):kN K σ=K .normal σ:=by rfl
theorem evCl_ext (Φ:Nat→Option Ctr)(d f:Nat)(xs:List A)(af:List Nat)(rest:List RO)(σ:St)(K:St→Prop)(st:Bool)(ι:Type)(fn:List AV→List AV→Option (Prop×(ι→Prop×AV×List AV))):evCl Φ d f xs af rest σ K (some (.ext st ι fn)) =evXV st ι fn d σ (evOpsk Φ rest K) (avs σ [] xs):=by rfl
theorem eo_call_g (xs:List A)(g:Nat×Bool):evOps Φ (⟨dst,.call f xs,some g,af⟩::rest) σ K=goOp Φ rest K σ dst (evG Φ ⟨dst,.call f xs,some g,af⟩ σ):=by
 cases dst<;>(simp only [evOps,strOf,extOf,preF,frzL,goOp]; cases evG Φ _ _<;>rfl)
theorem eo_mov:evOps Φ (⟨dst,.mov x,g,af⟩::rest) σ K=goOp Φ rest K σ dst (evG Φ ⟨dst,.mov x,g,af⟩ σ):=by
 cases dst<;>cases g<;>(simp only [evOps,strOf,extOf,preF,frzL,goOp]; cases evG Φ _ _<;>rfl)
theorem eo_pick (c a b:A):evOps Φ (⟨dst,.pick c a b,g,af⟩::rest) σ K=goOp Φ rest K σ dst (evG Φ ⟨dst,.pick c a b,g,af⟩ σ):=by
 cases dst<;>cases g<;>(simp only [evOps,strOf,extOf,preF,frzL,goOp]; cases evG Φ _ _<;>rfl)
theorem eo_arith (op:BinOp)(y:A):evOps Φ (⟨dst,.arith op x y,g,af⟩::rest) σ K=goOp Φ rest K σ dst (evG Φ ⟨dst,.arith op x y,g,af⟩ σ):=by
 cases dst<;>cases g<;>(simp only [evOps,strOf,extOf,preF,frzL,goOp]; cases evG Φ _ _<;>rfl)
theorem eo_cmp (op:BinOp)(y:A):evOps Φ (⟨dst,.cmp op ty x y,g,af⟩::rest) σ K=goOp Φ rest K σ dst (evG Φ ⟨dst,.cmp op ty x y,g,af⟩ σ):=by
 cases dst<;>cases g<;>(simp only [evOps,strOf,extOf,preF,frzL,goOp]; cases evG Φ _ _<;>rfl)
theorem eo_not:evOps Φ (⟨dst,.not x,g,af⟩::rest) σ K=goOp Φ rest K σ dst (evG Φ ⟨dst,.not x,g,af⟩ σ):=by
 cases dst<;>cases g<;>(simp only [evOps,strOf,extOf,preF,frzL,goOp]; cases evG Φ _ _<;>rfl)
theorem eo_neg:evOps Φ (⟨dst,.neg x,g,af⟩::rest) σ K=goOp Φ rest K σ dst (evG Φ ⟨dst,.neg x,g,af⟩ σ):=by
 cases dst<;>cases g<;>(simp only [evOps,strOf,extOf,preF,frzL,goOp]; cases evG Φ _ _<;>rfl)
theorem eo_conv:evOps Φ (⟨dst,.conv k x,g,af⟩::rest) σ K=goOp Φ rest K σ dst (evG Φ ⟨dst,.conv k x,g,af⟩ σ):=by
 cases dst<;>cases g<;>(simp only [evOps,strOf,extOf,preF,frzL,goOp]; cases evG Φ _ _<;>rfl)
theorem eo_len:evOps Φ (⟨dst,.len ty x,g,af⟩::rest) σ K=goOp Φ rest K σ dst (evG Φ ⟨dst,.len ty x,g,af⟩ σ):=by
 cases dst<;>cases g<;>(simp only [evOps,strOf,extOf,preF,frzL,goOp]; cases evG Φ _ _<;>rfl)
theorem eo_minmax (xs:List A):evOps Φ (⟨dst,.minmax mx xs,g,af⟩::rest) σ K=goOp Φ rest K σ dst (evG Φ ⟨dst,.minmax mx xs,g,af⟩ σ):=by
 cases dst<;>cases g<;>(simp only [evOps,strOf,extOf,preF,frzL,goOp]; cases evG Φ _ _<;>rfl)
theorem eo_faddr:evOps Φ (⟨dst,.faddr o x,g,af⟩::rest) σ K=goOp Φ rest K σ dst (evG Φ ⟨dst,.faddr o x,g,af⟩ σ):=by
 cases dst<;>cases g<;>(simp only [evOps,strOf,extOf,preF,frzL,goOp]; cases evG Φ _ _<;>rfl)
theorem eo_iaddrS (i:A):evOps Φ (⟨dst,.iaddrS z x i,g,af⟩::rest) σ K=goOp Φ rest K σ dst (evG Φ ⟨dst,.iaddrS z x i,g,af⟩ σ):=by
 cases dst<;>cases g<;>(simp only [evOps,strOf,extOf,preF,frzL,goOp]; cases evG Φ _ _<;>rfl)
theorem eo_iaddrA (z:Nat)(i:A):evOps Φ (⟨dst,.iaddrA n z x i,g,af⟩::rest) σ K=goOp Φ rest K σ dst (evG Φ ⟨dst,.iaddrA n z x i,g,af⟩ σ):=by
 cases dst<;>cases g<;>(simp only [evOps,strOf,extOf,preF,frzL,goOp]; cases evG Φ _ _<;>rfl)
theorem eo_load:evOps Φ (⟨dst,.load n ag x,g,af⟩::rest) σ K=goOp Φ rest K σ dst (evG Φ ⟨dst,.load n ag x,g,af⟩ σ):=by
 cases dst<;>cases g<;>(simp only [evOps,strOf,extOf,preF,frzL,goOp]; cases evG Φ _ _<;>rfl)
theorem eo_alloc:evOps Φ (⟨dst,.alloc z,g,af⟩::rest) σ K=goOp Φ rest K σ dst (evG Φ ⟨dst,.alloc z,g,af⟩ σ):=by
 cases dst<;>cases g<;>(simp only [evOps,strOf,extOf,preF,frzL,goOp]; cases evG Φ _ _<;>rfl)
theorem eo_box:evOps Φ (⟨dst,.box n x,g,af⟩::rest) σ K=goOp Φ rest K σ dst (evG Φ ⟨dst,.box n x,g,af⟩ σ):=by
 cases dst<;>cases g<;>(simp only [evOps,strOf,extOf,preF,frzL,goOp]; cases evG Φ _ _<;>rfl)
theorem eo_build (ps:List (Nat×Nat×A)):evOps Φ (⟨dst,.build z ps,g,af⟩::rest) σ K=goOp Φ rest K σ dst (evG Φ ⟨dst,.build z ps,g,af⟩ σ):=by
 cases dst<;>cases g<;>(simp only [evOps,strOf,extOf,preF,frzL,goOp]; cases evG Φ _ _<;>rfl)
theorem eo_extract:evOps Φ (⟨dst,.extract i x,g,af⟩::rest) σ K=goOp Φ rest K σ dst (evG Φ ⟨dst,.extract i x,g,af⟩ σ):=by
 cases dst<;>cases g<;>(simp only [evOps,strOf,extOf,preF,frzL,goOp]; cases evG Φ _ _<;>rfl)
theorem eo_nilchk:evOps Φ (⟨dst,.nilchk x,g,af⟩::rest) σ K=goOp Φ rest K σ dst (evG Φ ⟨dst,.nilchk x,g,af⟩ σ):=by
 cases dst<;>cases g<;>(simp only [evOps,strOf,extOf,preF,frzL,goOp]; cases evG Φ _ _<;>rfl)
theorem eo_append (y:A):evOps Φ (⟨dst,.append e b z x y,g,af⟩::rest) σ K=goOp Φ rest K σ dst (evG Φ ⟨dst,.append e b z x y,g,af⟩ σ):=by
 cases dst<;>cases g<;>(simp only [evOps,strOf,extOf,preF,frzL,goOp]; cases evG Φ _ _<;>rfl)
theorem eo_slice (z:Nat)(l h:Option A):evOps Φ (⟨dst,.slice z x l h,g,af⟩::rest) σ K=goOp Φ rest K σ dst (evG Φ ⟨dst,.slice z x l h,g,af⟩ σ):=by
 cases dst<;>cases g<;>(simp only [evOps,strOf,extOf,preF,frzL,goOp]; cases evG Φ _ _<;>rfl)
theorem eo_mkslice (l c:A):evOps Φ (⟨dst,.mkslice e b z l c,g,af⟩::rest) σ K=goOp Φ rest K σ dst (evG Φ ⟨dst,.mkslice e b z l c,g,af⟩ σ):=by
 cases dst<;>cases g<;>(simp only [evOps,strOf,extOf,preF,frzL,goOp]; cases evG Φ _ _<;>rfl)
theorem eo_copy (y:A):evOps Φ (⟨dst,.copy sz x y,g,af⟩::rest) σ K=goOp Φ rest K σ dst (evG Φ ⟨dst,.copy sz x y,g,af⟩ σ):=by
 cases dst<;>cases g<;>(simp only [evOps,strOf,extOf,preF,frzL,goOp]; cases evG Φ _ _<;>rfl)
theorem eo_idxS (i:A):evOps Φ (⟨dst,.idxS x i,g,af⟩::rest) σ K=goOp Φ rest K σ dst (evG Φ ⟨dst,.idxS x i,g,af⟩ σ):=by
 cases dst<;>cases g<;>(simp only [evOps,strOf,extOf,preF,frzL,goOp]; cases evG Φ _ _<;>rfl)
theorem eo_idxV (s:Nat)(i:A):evOps Φ (⟨dst,.idxV n s ag x i,g,af⟩::rest) σ K=goOp Φ rest K σ dst (evG Φ ⟨dst,.idxV n s ag x i,g,af⟩ σ):=by
 cases dst<;>cases g<;>(simp only [evOps,strOf,extOf,preF,frzL,goOp]; cases evG Φ _ _<;>rfl)
theorem eo_callv (xs:List A):evOps Φ (⟨dst,.callv fs x xs,g,af⟩::rest) σ K=goOp Φ rest K σ dst (evG Φ ⟨dst,.callv fs x xs,g,af⟩ σ):=by
 cases dst<;>cases g<;>(simp only [evOps,strOf,extOf,preF,frzL,goOp]; cases evG Φ _ _<;>rfl)
theorem eo_eqnil (n:Bool):evOps Φ (⟨dst,.eqnil n x,g,af⟩::rest) σ K=goOp Φ rest K σ dst (evG Φ ⟨dst,.eqnil n x,g,af⟩ σ):=by
 cases dst<;>cases g<;>(simp only [evOps,strOf,extOf,preF,frzL,goOp]; cases evG Φ _ _<;>rfl)
theorem eo_shr:evOps Φ (⟨dst,.shr n x,g,af⟩::rest) σ K=goOp Φ rest K σ dst (evG Φ ⟨dst,.shr n x,g,af⟩ σ):=by
 cases dst<;>cases g<;>(simp only [evOps,strOf,extOf,preF,frzL,goOp]; cases evG Φ _ _<;>rfl)
theorem ev_bsliceO:evOp Φ (.bsliceO e n z ps) d p σ=blO2 d e z (fillS σ p z.length (List.replicate n z) ps):=by
 simp only [evOp,blO2]; cases fillS σ p z.length (List.replicate n z) ps<;>rfl
theorem ev_eqnil (ng:Bool):evOp Φ (.eqnil ng x) d p σ=bind1 (av σ p x) (nilR σ.m ng):=by rfl
theorem ev_shl:evOp Φ (.shl n x) d p σ=bind1 (av σ p x) (shR true n):=by rfl
theorem ev_shr:evOp Φ (.shr n x) d p σ=bind1 (av σ p x) (shR false n):=by rfl
theorem ev_idxS (i:A):evOp Φ (.idxS x i) d p σ=bind2 (av σ p x) (av σ p i) idxSR:=by rfl
theorem ev_idxV (s:Nat)(i:A):evOp Φ (.idxV n s ag x i) d p σ=bind2 (av σ p x) (av σ p i) (idxVR n s ag):=by rfl
theorem ev_slice (z:Nat)(l h:Option A):evOp Φ (.slice z x l h) d p σ=sliceQ σ.m z (av σ p x) (boundA σ p l) (boundA σ p h):=by rfl
theorem ev_mkslice (l c:A):evOp Φ (.mkslice e b z l c) d p σ=bind2 (av σ p l) (av σ p c) (mkR e b z d):=by rfl
theorem ev_callv (xs:List A):evOp Φ (.callv fs x xs) d p σ=clV Φ σ.m fs (av σ p x) (avs σ p xs):=by
 simp only [evOp,clV]; cases av σ p x with
 | none=>rfl
 | some v=>cases v<;>rfl
theorem blO2_some:blO2 d e z (some es) =some ⟨[],[],.vw (64 * d+64) 0 0 0,[],some (64 * d+64,.buf e z es),[]⟩:=by rfl
theorem idxVR_c (s:Nat)(j:Int):idxVR n s ag (.agg cs) (.int k j) =ivR n j (valOf ag s cs (j.toNat * s)):=by simp only [idxVR,ivR]; cases valOf ag s cs (j.toNat * s)<;>rfl
theorem ivR_some (j:Int):ivR n j (some v) =some ⟨[0≤j∧j < n],[],v,[],none,[]⟩:=by rfl
theorem clV_some:clV Φ m fs (some (.fn f)) (some vs) =clW Φ m f vs (fs.contains f):=by simp only [clV,clW]
theorem clW_t:clW Φ m f vs true=callR m (Φ f) vs:=by rfl
theorem nil_nil (ng:Bool):nilR m ng .nil=some ⟨[],[],.bool !ng,[],none,[]⟩:=by rfl
theorem nil_lst:nilR m false (.lst z es) =some ⟨[],[],.nb es.isEmpty,[],none,[]⟩:=by rfl
theorem shl_int (a:Int):shR true n (.int k a) =shQ (.int k (k.wrap (a * 2 ^ n))) (decide (n≤k.bits)):=by simp only [shR,shQ]; cases decide (n≤k.bits)<;>rfl
theorem shr_int (a:Int):shR false n (.int k a) =shQ (.int k (a.fdiv (2 ^ n))) (decide (n≤k.bits)):=by simp only [shR,shQ]; cases decide (n≤k.bits)<;>rfl
theorem shQ_t:shQ v true=some ⟨[],[],v,[],none,[]⟩:=by rfl
theorem idxS_str (s:List UInt8)(n:Int):idxSR (.str s) (.int k n) =some ⟨[0≤n∧n < s.length],[],.int .u8 ((s.getD n.toNat 0).toNat:Int),[],none,[]⟩:=by rfl
theorem boundA_none:boundA σ p none=some none:=by rfl
theorem boundA_some:boundA σ p (some x) =optS (av σ p x):=by simp only [boundA]; cases av σ p x<;>rfl
theorem optS_some:optS (some v) =some (some v):=by rfl
theorem sliceO_some (x:AV)(lo hi:Option AV):sliceO m sz (some x) (some lo) (some hi) =sliceR m sz x lo hi:=by rfl
theorem slice_lst (lo hi:Option AV):sliceR m sz (.lst z es) lo hi=slL z es (loOf lo) (hiOf es.length hi) (z.length == sz):=by rfl
theorem slL_some (l h:Int):slL z es (some l) (some h) true=some ⟨[0≤l∧l≤h∧h≤es.length],[],.lst z ((es.drop l.toNat).take (h.toNat - l.toNat)),[],none,[]⟩:=by rfl
theorem slice_vw (lo hi:Option AV):sliceR m sz (.vw r a b c) lo hi=slB r sz lo hi (m r):=by rfl
theorem slB_buf (lo hi:Option AV):slB r sz lo hi (some (.buf t z es)) =slV r sz es (loOf lo) (hiOf es.length hi) (z.length == sz):=by rfl
theorem slV_some (l h:Int):slV r sz es (some l) (some h) true=some ⟨[0≤l∧l≤h∧h≤es.length],[],.sv r sz l.toNat h.toNat,[],none,[r]⟩:=by rfl
theorem loOf_none:loOf none=some 0:=by rfl
theorem loOf_int (n:Int):loOf (some (.int k n)) =some n:=by rfl
theorem hiOf_none (l:Nat):hiOf l none=some (l:Int):=by rfl
theorem hiOf_int (l:Nat)(n:Int):hiOf l (some (.int k n)) =some n:=by rfl
theorem mk_int (k1:IntKind)(l c:Int):mkR e b z d (.int k l) (.int k1 c) =some ⟨[0≤l∧l≤c∧(b:Int) * c≤281474976710656∧c≤9223372036854775807],[],.vw (64 * d+64) 0 0 0,[],some (64 * d+64,.buf e z (List.replicate l.toNat z)),[]⟩:=by rfl
theorem iaddrS_lst (n:Int):iaddrSM m zero (.lst z es) (.int k n) =iasB zero es n (z.length == zero.length):=by
 simp only [iaddrSM,iaddrSR]; by_cases h:z.length=zero.length
 · rw [if_pos h,beq_iff_eq.2 h]; rfl
 · rw [if_neg h,beq_eq_false_iff_ne.2 h]; rfl
theorem iaddrS_vw (n:Int):iaddrSM m zero (.vw r a b c) (.int k n) =iasV zero r n (m r):=by rfl
theorem iasV_buf (n:Int):iasV zero r n (some (.buf t z es)) =iasW zero r n es (z.length == zero.length):=by simp only [iasV,iasW]; cases (z.length == zero.length)<;>rfl
theorem iasW_t (n:Int):iasW zero r n es true=some ⟨[0≤n∧n < es.length],[es.length≤9223372036854775807],.bp r zero.length n.toNat 0,[],none,[r]⟩:=by rfl
theorem iaddrS_sv (n:Int):iaddrSM m zero (.sv r a b c) (.int k n) =iasP zero r a b c n (m r):=by rfl
theorem iasP_buf (n:Int):iasP zero r sz lo hi n (some (.buf t z es)) =iasX zero r lo hi n es (z.length == zero.length && z.length == sz):=by simp only [iasP,iasX]; cases (z.length == zero.length && z.length == sz)<;>rfl
theorem iasX_t (n:Int):iasX zero r lo hi n es true=some ⟨[0≤n∧n < ((hi - lo:Nat):Int)∧lo≤hi∧hi≤es.length],[],.bp r zero.length (lo+n.toNat) 0,[],none,[r]⟩:=by rfl
theorem faddr_bp (s:Nat):faddrR off (.bp r s i o) =some ⟨[],[],.bp r s i (o+off),[],none,[]⟩:=by rfl
theorem load_bp (s:Nat):loadR m n ag (.bp r s i o) =ldP n ag r s i o (m r):=by rfl
theorem ldP_buf (s:Nat):ldP n ag r s i o (some (.buf t z es)) =ldQ r i es (z.length == s) (valOf ag n (getE z es i) o):=by simp only [ldP,ldQ]
theorem ldQ_t:ldQ r i es true (some v) =some ⟨[i < es.length],[],v,[],none,[r]⟩:=by rfl
theorem store_bp (s:Nat):storeR m n (.bp r s i o) v=stP n r s i o (cellsOfAV n v) (m r):=by rfl
theorem stP_buf (s:Nat):stP n r s i o (some vs) (some (.buf t z es)) =stQ r i o vs t z es (z.length == s && (vs.all AV.clean0 && decide (o+n≤z.length))):=by simp only [stP,stQ]
theorem stQ_t:stQ r i o vs t z es true=some ⟨[i < es.length],[],.junk,[(r,.buf t z (es.set i (setCells (getE z es i) o vs)))],none,[r]⟩:=by rfl
theorem ysOf_sv (k:Nat):ysOf m k (.sv r a b c) =ysP k r a b c (m r):=by rfl
theorem ysP_buf (k:Nat):ysP k r sz lo hi (some (.buf t z es)) =ysQ r lo hi es (z.length == k && z.length == sz):=by simp only [ysP,ysQ]; cases (z.length == k && z.length == sz)<;>rfl
theorem ysQ_t:ysQ r lo hi es true=some ((es.drop lo).take (hi - lo),[r]):=by rfl
theorem cells_sv:cellsOfAV 1 (AV.sv r a b c) =some [AV.sv r a b c]:=by rfl
theorem needD_shl:needD (.shl n x) =false:=by rfl
theorem needD_shr:needD (.shr n x) =false:=by rfl
theorem needD_callv (xs:List A):needD (.callv fs x xs) =false:=by rfl
theorem pslots_sv:pslots (.sv r a b c) = []:=by rfl
theorem pslots_bp:pslots (.bp r a b c) = []:=by rfl
theorem bits_i64:IntKind.i64.bits=64:=by rfl
theorem bits_u8:IntKind.u8.bits=8:=by rfl
theorem bits_u16:IntKind.u16.bits=16:=by rfl
theorem bits_u32:IntKind.u32.bits=32:=by rfl
theorem bits_u64:IntKind.u64.bits=64:=by rfl
theorem gv_gd (q:List (Nat×Bool)):gv p (.gd q v) =gvB (q.all λx=>p.contains x) v:=by
 simp only [gv]; cases (q.all λx=>p.contains x)<;>rfl
theorem liveB_cells:liveB (.cells cs) =some (.cells cs):=by rfl
theorem liveB_buf:liveB (.buf t z es) =some (.buf t z es):=by rfl
theorem killB_dead:killB r .dead= .dead:=by rfl
theorem deadL_nil:deadL [] =true:=by rfl
theorem deadL_dead:deadL ((r,.dead)::us) =deadL us:=by rfl
theorem put_nd (p q:List Prop)(b:Blk)(t:List Nat):St.put ⟨s,m⟩ (some d) ⟨p,q,v,[(j,.dead)],some (i,b),t⟩ = ⟨upd (killS i s) d v,updM (killM i (updM m j none)) i (some (killB i b))⟩:=by rfl
theorem needD_appD (y:A):needD (.appD e bytes z x y) =true:=by rfl
theorem ev_appD (y:A):evOp Φ (.appD e bytes z x y) d p σ=bind2 (av σ p x) (av σ p y) (appDR σ.m e bytes z d):=by rfl
theorem appDR_nil:appDR m e bytes z d .nil y=appR m e bytes z d .nil y:=by rfl
def appDK (e bytes:Nat)(z:List AV)(d r:Nat)(es:List (List AV)):Option (List (List AV)×List Nat)→Option Res
 | some (ys,t')=>some ⟨[es.length+ys.length≤9223372036854775807,(es.length+ys.length) * bytes≤140737488355328],[],.vw (64 * d+64) 0 0 0,[(r,.dead)],some (64 * d+64,.buf e z (es ++ ys)),[r] ++ t'⟩
 | none=>none
def appDV (e bytes:Nat)(z:List AV)(d r:Nat)(ys:Option (List (List AV)×List Nat)):Bool→Option Blk→Option Res
 | false,some (.buf t z' es)=>if t=e∧z'.length=z.length∧64≤r then appDK e bytes z d r es ys else none
 | _,_=>none
theorem appDR_vw:appDR m e bytes z d (.vw r a b c) y=appDV e bytes z d r (ysOf m z.length y) (r == 64 * d+64) (m r):=by
 simp only [appDR,baseOf]
 cases (r == 64 * d+64) with
 | true=>rfl
 | false =>
   cases hm:m r with
   | none=>rfl
   | some blk=>
     cases blk with
     | cells cs=>rfl
     | dead=>rfl
     | qb=>rfl
     | ms=>rfl
     | clo=>rfl
     | buf t z' es=>
       simp only [appDV]
       by_cases hc:t=e∧z'.length=z.length∧64≤r
       · rw [if_pos hc,if_pos hc]
         cases ysOf m z.length y with
         | none=>rfl
         | some q=>obtain ⟨ys,t⟩:=q; rfl
       · rw [if_neg hc,if_neg hc]
theorem appDV_buf (e bytes:Nat)(z:List AV)(d r:Nat)(ys:Option (List (List AV)×List Nat))(t:Nat)(z':List AV)(es:List (List AV)):appDV e bytes z d r ys false (some (.buf t z' es)) =if t=e∧z'.length=z.length∧64≤r then appDK e bytes z d r es ys else none:=by rfl
theorem appDK_some (ys:List (List AV)):appDK e bytes z d r es (some (ys,t')) =some ⟨[es.length+ys.length≤9223372036854775807,(es.length+ys.length) * bytes≤140737488355328],[],.vw (64 * d+64) 0 0 0,[(r,.dead)],some (64 * d+64,.buf e z (es ++ ys)),[r] ++ t'⟩:=by rfl
theorem evC_ghost (k:Nat)(b:RC)(K:Exit→St→Prop):evC Φ I (.ghost k b) ⟨s,m⟩ K=evC Φ I b (ghV k ⟨s,m⟩ (frzL (vws0 (s k)) ⟨s,m⟩) (s k)) K:=by rfl
theorem ghV_ptr (k:Nat)(f:St):ghV k ⟨s,m⟩ f (.ptr r 0) =fzB k r s m (m r):=by rfl
theorem ghV_vw (k:Nat)(f:St):ghV k σ f (.vw r a b c) =f:=by rfl
def fzC (k r:Nat)(s:Nat→AV)(m:Nat→Option Blk)(cs:List AV):Bool→St
 | true=>⟨upd s k (.ep cs [cs] 0 0),updM m r none⟩
 | false=>⟨s,m⟩
theorem fzB_cells (k:Nat):fzB k r s m (some (.cells cs)) =fzC k r s m cs (decide (64≤r) && cs.all AV.clean0):=by
 simp only [fzB,fzC]
 cases (decide (64≤r) && cs.all AV.clean0)<;>rfl
theorem fzC_t (k:Nat):fzC k r s m cs true= ⟨upd s k (.ep cs [cs] 0 0),updM m r none⟩:=by rfl
theorem pslots_ap:pslots (.ap r a b c) = []:=by rfl
theorem killB_ms (ks:List (List Int)):killB r (.ms n ks) = .ms n ks:=by rfl
theorem killB_clo:killB r (.clo f z es i o) = .clo f z es i o:=by rfl
theorem frzB_clo:frzB r zz ee (.clo f z es i o) = .clo f z es i o:=by rfl
theorem liveB_clo:liveB (.clo f z es i o) =some (.clo f z es i o):=by rfl
theorem leB_clo (f1 i1 o1:Nat):leB (some (.clo f z es i o)) (.clo f1 z1 es1 i1 o1) =(f=f1∧z=z1∧es=es1∧i=i1∧o=o1):=by rfl
theorem lkB_clo (x:Option Blk):lkB B r x (.clo f z es i o) = []:=by cases x with | none=>rfl | some b=>cases b<;>rfl
theorem appQR_nil:appQR m e bytes z d .nil y=appR m e bytes z d .nil y:=by rfl
def appC (e bytes:Nat)(z:List AV)(r:Nat)(ys:Option (List (List AV)×List Nat)):Option Blk→Option Res
 | some (.qb t z' es)=>appQ e bytes z r (some (.qb t z' es)) ys
 | b=>appV e bytes z r ys b
theorem appQR_vw:appQR m e bytes z d (.vw r a b c) y=appC e bytes z r (ysOf m z.length y) (m r):=by
 simp only [appQR,isQ]
 cases hm:m r with
 | none=>simp only [appR_vw,hm]; rfl
 | some blk=>cases blk<;>simp only [appR_vw,hm]<;>rfl
theorem appC_buf (e bytes:Nat)(z:List AV)(r:Nat)(ys:Option (List (List AV)×List Nat))(t:Nat)(z':List AV)(es:List (List AV)):appC e bytes z r ys (some (.buf t z' es)) =appV e bytes z r ys (some (.buf t z' es)):=by rfl
theorem sliceQ_lst (lo hi:Option (Option AV)):sliceQ m sz (some (.lst z es)) lo hi=sliceO m sz (some (.lst z es)) lo hi:=by rfl
def slC (m:Nat→Option Blk)(sz r a b c:Nat)(lo hi:Option (Option AV)):Option Blk→Option Res
 | some (.qb t z es)=>slQ sz r lo hi (some (.qb t z es))
 | _=>sliceO m sz (some (.vw r a b c)) lo hi
theorem sliceQ_vw (lo hi:Option (Option AV)):sliceQ m sz (some (.vw r a b c)) lo hi=slC m sz r a b c lo hi (m r):=by
 simp only [sliceQ,isQ]
 cases hm:m r with
 | none=>rfl
 | some blk=>cases blk<;>simp only [hm]<;>rfl
theorem slC_buf (lo hi:Option (Option AV)):slC m sz r a b c lo hi (some (.buf t z es)) =sliceO m sz (some (.vw r a b c)) lo hi:=by rfl
theorem eo_mkmap:evOps Φ (⟨dst,.mkmap n,g,af⟩::rest) σ K=goOp Φ rest K σ dst (evG Φ ⟨dst,.mkmap n,g,af⟩ σ):=by
 cases dst<;>cases g<;>(simp only [evOps,strOf,extOf,preF,frzL,goOp]; cases evG Φ _ _<;>rfl)
theorem eo_mkclo:evOps Φ (⟨dst,.mkclo f x,g,af⟩::rest) σ K=goOp Φ rest K σ dst (evG Φ ⟨dst,.mkclo f x,g,af⟩ σ):=by
 cases dst<;>cases g<;>(simp only [evOps,strOf,extOf,preF,frzL,goOp]; cases evG Φ _ _<;>rfl)
theorem needD_mkclo:needD (.mkclo f x) =true:=by rfl
theorem ev_mkmap:evOp Φ (.mkmap n) d p σ=some ⟨[],[],.ap (64 * d+64) 0 0 0,[],some (64 * d+64,.ms n []),[]⟩:=by rfl
theorem ev_mkclo:evOp Φ (.mkclo f x) d p σ=bind1 (av σ p x) (cloR f d):=by rfl
theorem cloR_ep:cloR f d (.ep z es i o) =some ⟨[],[],.ap (64 * d+64) 0 0 0,[],some (64 * d+64,.clo f z es i o),[]⟩:=by rfl
theorem clV_ap:clV Φ m fs (some (.ap r a b c)) (some vs) =cloV Φ m fs r vs (m r):=by rfl
def cloW (Φ:Nat→Option Ctr)(m:Nat→Option Blk)(r f:Nat)(vs:List AV):Bool→Option Res
 | true=>tchR r (callR m (Φ f) vs)
 | false=>none
theorem cloV_clo:cloV Φ m fs r vs (some (.clo f z es i o)) =cloW Φ m r f (vs ++ [.ep z es i o]) (fs.contains f):=by
 simp only [cloV,cloW]
 cases fs.contains f<;>rfl
theorem cloW_t:cloW Φ m r f vs true=tchR r (callR m (Φ f) vs):=by rfl
theorem tchR_some (t:List Nat):tchR r (some ⟨pre,post,v,[],none,t⟩) =some ⟨pre,post,v,[],none,r::t⟩:=by rfl
end Go.Ev
namespace Go.Ev
open Go Go.RowKit
variable (l:List Int)
theorem getE_map {α:Type}(z:List AV)(enc:α→List AV)(d:α)(hd:enc d=z)(l:List α)(i:Nat):getE z (l.map enc) i=enc (l.getD i d):=by
 simp only [getE,List.getD_eq_getElem?_getD,List.getElem?_map]
 cases l[i]?<;>simp [hd]
def u8s (l:List Int):List (List AV):=l.map λk=>[AV.int .u8 k]
theorem u8s_len:(u8s l).length=l.length:=by simp [u8s]
theorem getE_u8 (i:Nat):getE [.int .u8 0] (u8s l) i= [.int .u8 (l.getD i 0)]:=getE_map _ (λk=>[AV.int .u8 k]) 0 rfl l i
def i64s (l:List Int):List (List AV):=l.map λk=>[AV.int .i64 k]
theorem Qx0:(i64s l).length=l.length:=by simp [i64s]
theorem getE_i64 (i:Nat):getE [.int .i64 0] (i64s l) i= [.int .i64 (l.getD i 0)]:=getE_map _ (λk=>[AV.int .i64 k]) 0 rfl l i
theorem getD_all {p:Int→Prop} {l:List Int}(h:∀ k∈l,p k)(h0:p 0)(i:Nat):p (l.getD i 0):=by
 rw [List.getD_eq_getElem?_getD]
 cases e:l[i]? with
 | none=>exact h0
 | some v=>exact h v (List.mem_of_getElem? e)
theorem wr_in (n:Int)(h1:-9223372036854775808≤n)(h2:n≤9223372036854775807):IntKind.i64.wrap n=n:=by rw [IntKind.wrap_i64]; omega
theorem wr_u8 (n:Int)(h1:0≤n)(h2:n≤255):IntKind.u8.wrap n=n:=by rw [IntKind.wrap_u8]; omega
theorem wr_u16 (n:Int)(h1:0≤n)(h2:n≤65535):IntKind.u16.wrap n=n:=by rw [IntKind.wrap_u16]; omega
theorem tmod_nn (a b:Int)(h:0≤a):a.tmod b=a % b:=Int.tmod_eq_emod_of_nonneg h
theorem AV.int_inj' {k:IntKind} {a b:Int}(h:a=b):AV.int k a=AV.int k b:=by rw [h]
def Phis:List (Nat×Ctr)→Nat→Option Ctr
 | [],_=>none
 | (n,c)::l,f=>if f=n then some c else Phis l f
theorem Qb0 {P:Program}:∀ f C,Phis [] f=some C→Sound P f C:=λ_ _ h=>by cases h
theorem Qa0 {P:Program} {n:Nat} {c:Ctr} {l:List (Nat×Ctr)}(h:Sound P n c)(k:∀ f C,Phis l f=some C→Sound P f C):∀ f C,Phis ((n,c)::l) f=some C→Sound P f C:=by
 intro f C hf
 simp only [Phis] at hf
 split at hf
 · rename_i e; cases hf; subst e; exact h
 · exact k f C hf
end Go.Ev
namespace Go.Ev
open Go Go.RowKit
open Classical in
theorem Qc0 {P:Program} {Φ:Nat→Option Ctr}(hmix:P.follows .mixedOrders=true)(hΦ:∀ f C,Φ f=some C→Sound P f C) {f:FuncId} {fn:Func}(hf:P.funcs[f]? =some fn) {c:Code}(hb:fn.body=some c) {rc:RC}(hc:comp P fn.ntmps c=some (erase rc)) {rv:List RV}(hr:compRes P fn.results.toList=some rv)
 {C:List AV→List AV→Option (Prop×AV×List AV)}
 (h:∀ (xs:List AV) (q:Prop) (r:AV) (cs':List AV),C [] xs=some (q,r,cs')→q→∃ I:Nat→LI,r.clean2=true∧xs.length≤fn.ntmps∧evC Φ I rc ⟨initS xs,initM false []⟩ (kRet rv r false [])):Sound P f (.mk false C):=by
 intro Z w xs vs q r cs' hz hgl hreps hC hq
 obtain ⟨I,h3⟩:=h xs q r cs' hC hq
 have key:Sound P f (.mk false λ_ ys=>if ys=xs then some (q,r,cs') else none):=sound_pure hmix hΦ I hf hb hc hr (by
  intro ys q2 r2 cs2 e _
  split at e
  · rename_i e2; subst e2; cases e; exact h3
  · cases e)
 exact key Z w xs vs q r cs' hz hgl hreps (by simp) hq
open Classical in
theorem Zq0 {P:Program} {Φ:Nat→Option Ctr}(hmix:P.follows .mixedOrders=true)(hΦ:∀ f C,Φ f=some C→Sound P f C) {f:FuncId} {fn:Func}(hf:P.funcs[f]? =some fn) {c:Code}(hb:fn.body=some c) {rc:RC}(hc:comp P fn.ntmps c=some (erase rc)) {rv:List RV}(hr:compRes P fn.results.toList=some rv)
 {C:List AV→List AV→Option (Prop×AV×List AV)}
 (h:∀ (cs xs:List AV) (q:Prop) (r:AV) (cs':List AV),C cs xs=some (q,r,cs')→q→∃ I:Nat→LI,r.clean2=true∧cs'.all AV.clean0=true∧xs.length+1≤fn.ntmps∧evC Φ I rc ⟨initS (.ptr 0 0::xs),initM true cs⟩ (kRet rv r true cs')):Sound P f (.mk true C):=by
 intro Z w b T cs us xs vs q r cs' hz hgl hheap hnZ hcells hreps hC hq
 obtain ⟨I,h3⟩:=h cs xs q r cs' hC hq
 have key:Sound P f (.mk true λds ys=>if ds=cs∧ys=xs then some (q,r,cs') else none):=sound_state hmix hΦ I hf hb hc hr (by
  intro ds ys q2 r2 cs2 e _
  split at e
  · rename_i e2; obtain ⟨rfl,rfl⟩:=e2; cases e; exact h3
  · cases e)
 exact key Z w b T cs us xs vs q r cs' hz hgl hheap hnZ hcells hreps (by simp) hq
open Classical in
theorem Qy0 {P:Program} {Φ:Nat→Option Ctr}(hmix:P.follows .mixedOrders=true)(hΦ:∀ f C,Φ f=some C→Sound P f C) {f:FuncId} {fn:Func}(hf:P.funcs[f]? =some fn) {c:Code}(hb:fn.body=some c) {rc:RC}(hc:comp P fn.ntmps c=some (erase rc)) {rv:List RV}(hr:compRes P fn.results.toList=some rv)
 {ι:Type} {C:List AV→List AV→Option (Prop×(ι→Prop×AV×List AV))}
 (h:∀ (xs:List AV) (q:Prop) (g:ι→Prop×AV×List AV),C [] xs=some (q,g)→q→∃ I:Nat→LI,xs.length≤fn.ntmps∧evC Φ I rc ⟨initS xs,initM false []⟩ (kRetX rv false g)):Sound P f (.ext false ι C):=by
 intro Z w xs vs q g hz hgl hreps hC hq
 obtain ⟨I,h3⟩:=h xs q g hC hq
 have key:Sound P f (.ext false ι λ_ ys=>if ys=xs then some (q,g) else none):=soundX_pure hmix hΦ I hf hb hc hr (by
  intro ys q2 g2 e _
  split at e
  · rename_i e2; subst e2; cases e; exact h3
  · cases e)
 exact key Z w xs vs q g hz hgl hreps (by simp) hq
open Classical in
theorem Zk0 {P:Program} {Φ:Nat→Option Ctr}(hmix:P.follows .mixedOrders=true)(hΦ:∀ f C,Φ f=some C→Sound P f C) {f:FuncId} {fn:Func}(hf:P.funcs[f]? =some fn) {c:Code}(hb:fn.body=some c) {rc:RC}(hc:comp P fn.ntmps c=some (erase rc)) {rv:List RV}(hr:compRes P fn.results.toList=some rv)
 {ι:Type} {C:List AV→List AV→Option (Prop×(ι→Prop×AV×List AV))}
 (h:∀ (cs xs:List AV) (q:Prop) (g:ι→Prop×AV×List AV),C cs xs=some (q,g)→q→∃ I:Nat→LI,(∀ i,(g i).1→(g i).2.2.all AV.clean0=true)∧xs.length+1≤fn.ntmps∧evC Φ I rc ⟨initS (.ptr 0 0::xs),initM true cs⟩ (kRetX rv true g)):Sound P f (.ext true ι C):=by
 intro Z w b T cs us xs vs q g hz hgl hheap hnZ hcells hreps hC hq
 obtain ⟨I,h3⟩:=h cs xs q g hC hq
 have key:Sound P f (.ext true ι λds ys=>if ds=cs∧ys=xs then some (q,g) else none):=soundX_state hmix hΦ I hf hb hc hr (by
  intro ds ys q2 g2 e _
  split at e
  · rename_i e2; obtain ⟨rfl,rfl⟩:=e2; cases e; exact h3
  · cases e)
 exact key Z w b T cs us xs vs q g hz hgl hheap hnZ hcells hreps (by simp) hq
end Go.Ev
namespace Go.Ev
open Go Go.RowKit
inductive CD where
 | int (k:IntKind)
 | bool
 | str
 | sl (e:List CD)
def CD.zero:CD→AV
 | .int k=> .int k 0
 | .bool=> .bool false
 | .str=> .str []
 | .sl _=> .nil
mutual
def okA:CD→AV→Prop
 | .int k,a=>∃ n,a= .int k n∧(Lit.int k n).wf=true
 | .bool,a=>∃ b,a= .bool b
 | .str,a=>∃ s,a= .str s∧s.length≤maxLen
 | .sl e,a=>∃ es,a= .lst (e.map CD.zero) es∧es.length≤maxLen∧∀ r∈es,okAs e r
def okAs:List CD→List AV→Prop
 | [],[]=>True
 | d::ds,a::as=>okA d a∧okAs ds as
 | _,_=>False
end
theorem okAs_len:∀ {ds:List CD} {as:List AV},okAs ds as→as.length=ds.length
 | [],[],_=>rfl
 | [],_ ::_,h=>by simp [okAs] at h
 | _ ::_,[],h=>by simp [okAs] at h
 | _ ::ds,_ ::as,h=>by
   simp only [okAs] at h
   simp [okAs_len h.2]
theorem okAs_append:∀ {ds ds':List CD} {as as':List AV},okAs ds as→okAs ds' as'→okAs (ds ++ ds') (as ++ as')
 | [],ds',[],as',_,h=>h
 | [],_,_ ::_,_,h,_=>by simp [okAs] at h
 | _ ::_,_,[],_,h,_=>by simp [okAs] at h
 | _ ::ds,ds',_ ::as,as',h,h'=>by
   simp only [okAs] at h
   simp only [List.cons_append,okAs]
   exact ⟨h.1,okAs_append h.2 h'⟩
theorem okAs_uncons {d:CD} {ds:List CD} {ys:List AV}(h:okAs (d::ds) ys):∃ a l,ys=a::l∧okA d a∧okAs ds l:=by
 cases ys with
 | nil=>simp [okAs] at h
 | cons a l=>simp only [okAs] at h; exact ⟨a,l,rfl,h.1,h.2⟩
theorem okAs_unnil {ys:List AV}(h:okAs [] ys):ys= []:=by
 cases ys with
 | nil=>rfl
 | cons a l=>simp [okAs] at h
theorem un_int {k:IntKind} {ds:List CD} {ys:List AV}(h:okAs (.int k::ds) ys):∃ n l,ys= .int k n::l∧(Lit.int k n).wf=true∧okAs ds l:=by
 obtain ⟨a,l,rfl,h1,h2⟩:=okAs_uncons h
 simp only [okA] at h1
 obtain ⟨n,rfl,hw⟩:=h1
 exact ⟨n,l,rfl,hw,h2⟩
def catF (P:Program)(go:TypeId→Option (List CD)):List Field→Nat→Option (List CD)
 | [],_=>some []
 | f::fs,p=>match go f.type,catF P go fs (p+P.cellsOf f.type) with
   | some d,some ds=>if f.offset=p∧d.length=P.cellsOf f.type then some (d ++ ds) else none
   | _,_=>none
def catN:Nat→List CD→List CD
 | 0,_=>[]
 | n+1,d=>d ++ catN n d
def flat (P:Program):Nat→TypeId→Option (List CD)
 | 0,_=>none
 | n +1,t=>match P.underlying t with
   | some .bool=>some [.bool]
   | some (.int k)=>some [.int k]
   | some .string=>some [.str]
   | some (.slice e)=>match flat P n e with
     | some d=>if d.length=P.cellsOf e∧d≠ [] then some [.sl d] else none
     | none=>none
   | some (.struct fs)=>match catF P (flat P n) fs.toList 0 with
     | some d=>if d.length=P.cellsOf t then some d else none
     | none=>none
   | some (.array k e)=>match flat P n e with
     | some d=>if d.length=P.cellsOf e∧k * d.length=P.cellsOf t then some (catN k d) else none
     | none=>none
   | _=>none
theorem Cells.one1 {Z:Nat→Prop} {w:World} {θ:Nat→Value} {a:AV} {v:Value}(h:Rep Z w θ a v)(ha:a.atom=true)(hv:v.oneCell'=true):Cells Z w θ [a] [v]:=by
 refine ⟨rfl,by simpa using ha,by simpa using hv,?_⟩
 intro i c u hc hu
 cases i with
 | zero=>simp at hc hu; subst hc hu; exact h
 | succ i=>simp at hc
theorem addr_add (b o n:Nat):(⟨b,o,none⟩:Addr).add n= ⟨b,o+n,none⟩:=by
 unfold Addr.add; split<;>simp_all
section
variable {H:Type} {enc:TypeId×Value→H} {P:Program} {w:World} {base:Nat} {spare:Nat→Bool} {held:Bool} {Z:Nat→Prop}
theorem cells?_get {a:Addr} {n:Nat} {cs:List Value}(h:w.cells? base a n=some cs):cs.length=n∧∀ i,i < n→w.cell? (a.add i) =cs[i]?:=by
 unfold World.cells? at h
 split at h
 · exact ⟨by simpa using mapM_some_length h,λi hi=>mapM_some_get h i i (by simp [hi])⟩
 · cases h
theorem cell_lt {a:Addr} {v:Value}(h:w.cell? a=some v):a.block < w.heap.size:=by
 by_cases hb:a.block < w.heap.size
 · exact hb
 · have:w.heap[a.block]? =none:=by simp; omega
   simp [World.cell?,this] at h
theorem rows_of {α:Type}(p:Nat→α→Prop)(n:Nat)(h:∀ i,i < n→∃ a,p i a):∃ l:List α,l.length=n∧∀ i a,l[i]? =some a→p i a:=by
 induction n with
 | zero=>exact ⟨[],rfl,by simp⟩
 | succ n ih=>
   obtain ⟨l,hl,hp⟩:=ih (λi hi=>h i (by omega))
   obtain ⟨a,ha⟩:=h n (by omega)
   refine ⟨l ++ [a],by simp [hl],λi b hb=>?_⟩
   by_cases hi:i < l.length
   · rw [List.getElem?_append_left hi] at hb; exact hp i b hb
   · rw [List.getElem?_append_right (by omega)] at hb
     have:i=n:=by
      by_cases h0:i - l.length=0
      · omega
      · obtain ⟨k,hk⟩:=Nat.exists_eq_succ_of_ne_zero h0
        rw [hk] at hb; simp at hb
     subst this
     simp [hl] at hb; subst hb; exact ha
theorem trod_flat (hZ:∀ b,b < w.heap.size→Z b):∀ (n:Nat)(t:TypeId)(D:List CD)(m:Nat)(cs:List Value)(x:DataW H×List MemPlace),flat P n t=some D→DataW.trod enc P w base spare held m t cs=some x→
 ∃ as,okAs D as∧Cells Z w th0 as cs:=by
 intro n
 induction n with
 | zero=>intro t D m cs x hD; simp [flat] at hD
 | succ n ih =>
   intro t D m cs x hD hx
   simp only [flat] at hD
   split at hD
   · rename_i ht
     obtain ⟨b,rfl,_⟩:=DataW.trod_bool ht hx
     cases hD
     exact ⟨[.bool b],⟨⟨b,rfl⟩,trivial⟩,Cells.one1 (.bool _ b) rfl rfl⟩
   · rename_i k ht
     obtain ⟨b,rfl,_,hw⟩:=DataW.trod_int ht hx
     cases hD
     exact ⟨[.int k b],⟨⟨b,rfl,hw⟩,trivial⟩,Cells.one1 (.int _ k b) rfl rfl⟩
   · rename_i ht
     obtain ⟨s,rfl,_,hs⟩:=DataW.trod_string ht hx
     cases hD
     refine ⟨[.str s.data.toList],⟨⟨s.data.toList,rfl,by simpa using hs⟩,trivial⟩,Cells.one1 ?_ rfl rfl⟩
     have h:=Rep.str (Z:=Z) (w:=w) th0 s.data.toList
     simpa using h
   · rename_i e ht
     split at hD
     · rename_i d hd
       split at hD
       · rename_i hdl
         cases hD
         rcases DataW.trod_slice ht hx with ⟨rfl,_⟩ | ⟨a,len,cap,elems,rest,m',_,rfl,_,hb,hl,hm,hlen,hel,_,_⟩
         · refine ⟨[.lst (d.map CD.zero) []],⟨⟨[],rfl,by simp [maxLen],by simp⟩,trivial⟩,Cells.one1 ?_ rfl rfl⟩
           exact .lst _ _ [] none 0 (λ_ _=>undef) (by simp) (by simp) (by simp) (by simp) (by simp) (by simp [cellAt]) (by simp [cellAt])
         · have hrow:∀ i,i < len→∃ as:List AV×List Value,okAs d as.1∧Cells Z w th0 as.1 as.2∧as.2.length=P.cellsOf e∧∀ j,j < P.cellsOf e→w.cell? ((a.add (i * P.cellsOf e)).add j) =as.2[j]?:=by
            intro i hi
            have h1:=hel i hi
            have h2:i < elems.length:=by omega
            rw [List.getElem?_eq_getElem h2] at h1
            obtain ⟨cs',hc,hx'⟩:=Option.bind_eq_some_iff.1 h1
            obtain ⟨hcl,hcg⟩:=cells?_get hc
            obtain ⟨as,ha,hcells⟩:=ih e d _ cs' _ hd hx'
            exact ⟨(as,cs'),ha,hcells,hcl,hcg⟩
           obtain ⟨l,hll,hlp⟩:=rows_of (λi (as:List AV×List Value)=>okAs d as.1∧Cells Z w th0 as.1 as.2∧as.2.length=P.cellsOf e∧∀ j,j < P.cellsOf e→w.cell? ((a.add (i * P.cellsOf e)).add j) =as.2[j]?) len hrow
           have hmem:∀ r∈l.map (·.1),okAs d r:=by
            intro r hr
            obtain ⟨y,hy,rfl⟩:=List.mem_map.1 hr
            obtain ⟨i,hi⟩:=List.getElem?_of_mem hy
            exact (hlp i y hi).1
           have hpos:0 < P.cellsOf e:=by
            rw [← hdl.1]
            rcases List.length_pos_iff.2 hdl.2 with h; exact h
           have cellv:∀ (i j:Nat) (c:AV),cellAt (l.map (·.1)) i j=some c→∃ y,l[i]? =some y∧y.1[j]? =some c∧j < P.cellsOf e∧∃ v,y.2[j]? =some v:=by
            intro i j c hc
            simp only [cellAt,List.getElem?_map] at hc
            cases hy:l[i]? with
            | none=>simp [hy] at hc
            | some y=>
              simp [hy] at hc
              have hk:=(hlp i y hy).2.1.len
              have hk2:=(hlp i y hy).2.2.1
              have hj:j < y.1.length:=by
               by_cases h:j < y.1.length
               · exact h
               · simp [List.getElem?_eq_none (by omega:y.1.length≤j)] at hc
              exact ⟨y,rfl,hc,by omega,_,List.getElem?_eq_getElem (by omega)⟩
           let f:Nat→Nat→Value:=λi j=>(((l[i]?).map (·.2)).bind (·[j]?)).getD undef
           have hf:∀ (i j:Nat) (c:AV),cellAt (l.map (·.1)) i j=some c→∃ y v,l[i]? =some y∧y.1[j]? =some c∧j < P.cellsOf e∧y.2[j]? =some v∧f i j=v:=by
            intro i j c hc
            obtain ⟨y,hy,h1,h2,v,hv⟩:=cellv i j c hc
            exact ⟨y,v,hy,h1,h2,hv,by simp [f,hy,hv]⟩
           refine ⟨[.lst (d.map CD.zero) (l.map (·.1))],⟨⟨_,rfl,by simp; omega,hmem⟩,trivial⟩,Cells.one1 ?_ rfl rfl⟩
           have hR:Rep Z w th0 (.lst (d.map CD.zero) (l.map (·.1))) (.slice (some a) (l.map (·.1)).length cap):=by
            refine .lst _ _ _ (some a) cap f (by simp; omega) hm ?_ ?_ ?_ ?_ ?_
            · intro r hr
              rw [okAs_len (hmem r hr)]; simp
            · intro r hr
              obtain ⟨y,hy,rfl⟩:=List.mem_map.1 hr
              obtain ⟨i,hi⟩:=List.getElem?_of_mem hy
              exact (hlp i y hi).2.1.at1
            · intro hne
              obtain ⟨y,hy⟩:∃ y,l[0]? =some y:=by
               cases l with
               | nil=>simp at hne
               | cons y l=>exact ⟨y,rfl⟩
              have h0:=(hlp 0 y hy).2.2
              have h1:=h0.2 0 hpos
              rw [List.getElem?_eq_getElem (by rw [h0.1]; exact hpos)] at h1
              have hs:=World.cell?_spot h1
              have hlt:=cell_lt h1
              obtain ⟨b,o,s⟩:=a
              have hs':s=none:=by simpa [Addr.add] using hs
              subst hs'
              refine ⟨b,o,rfl,hZ b (by simpa [Addr.add] using hlt),?_⟩
              intro i j c hc
              obtain ⟨y,v,hy,h1,h2,hv,hfv⟩:=hf i j c hc
              have:=(hlp i y hy).2.2.2 j h2
              rw [hv] at this
              rw [hfv,← this,addr_add,addr_add]
              simp [hdl.1,Nat.add_assoc]
            · intro i j c hc
              obtain ⟨y,v,hy,h1,h2,hv,hfv⟩:=hf i j c hc
              rw [hfv]
              exact (hlp i y hy).2.1.one v (List.mem_of_getElem? hv)
            · intro i j c hc
              obtain ⟨y,v,hy,h1,h2,hv,hfv⟩:=hf i j c hc
              rw [hfv]
              exact (hlp i y hy).2.1.rep j c v h1 hv
           have:(l.map (·.1)).length=len:=by simp [hll]
           rwa [this] at hR
       · cases hD
     · cases hD
   · rename_i fs ht
     split at hD
     · rename_i d hd
       split at hD
       · rename_i hdl
         cases hD
         obtain ⟨xs,m',_,_,hcl,hxl,hf⟩:=DataW.trod_struct ht hx
         have go :∀ (l:List Field) (p:Nat) (E:List CD),catF P (flat P n) l p=some E→(∀ f∈l,∃ y,DataW.trod enc P w base spare held m' f.type ((cs.drop f.offset).take (P.cellsOf f.type)) =some y)→
          ∃ as,okAs E as∧Cells Z w th0 as ((cs.drop p).take E.length):=by
          intro l
          induction l with
          | nil=>
            intro p E hE _
            simp only [catF] at hE; cases hE
            exact ⟨[],trivial,by simpa using Cells.nil _ _ _⟩
          | cons f l ihl=>
            intro p E hE hl
            simp only [catF] at hE
            split at hE
            · rename_i d1 ds1 h1 h2
              split at hE
              · rename_i hh
                cases hE
                obtain ⟨y,hy⟩:=hl f (by simp)
                obtain ⟨as,ha,hc⟩:=ih _ _ _ _ _ h1 hy
                obtain ⟨bs,hb,hc'⟩:=ihl _ _ h2 (λg hg=>hl g (by simp [hg]))
                refine ⟨as ++ bs,okAs_append ha hb,?_⟩
                have e1:(cs.drop p).take (d1 ++ ds1).length=(cs.drop f.offset).take (P.cellsOf f.type) ++ (cs.drop (p+P.cellsOf f.type)).take ds1.length:=by
                 rw [List.length_append,hh.1,hh.2,List.take_add,List.drop_drop]
                rw [e1]
                exact hc.append hc'
              · cases hE
            · cases hE
         obtain ⟨as,ha,hc⟩:=go fs.toList 0 D hd (by
          intro f hfm
          obtain ⟨i,hi⟩:=List.getElem?_of_mem hfm
          have hi':fs[i]? =some f:=by simpa using hi
          have h1:=hf i f hi'
          have h2:i < xs.length:=by
           rw [hxl]
           by_cases h:i < fs.size
           · exact h
           · simp [Array.getElem?_eq_none (by omega:fs.size≤i)] at hi'
          rw [List.getElem?_eq_getElem h2] at h1
          exact ⟨_,h1⟩)
         refine ⟨as,ha,?_⟩
         have:(cs.drop 0).take D.length=cs:=by simp [hdl,← hcl]
         rwa [this] at hc
       · cases hD
     · cases hD
   · rename_i k e ht
     split at hD
     · rename_i d hd
       split at hD
       · rename_i hdl
         cases hD
         obtain ⟨xs,m',_,_,hcl,hxl,hf⟩:=DataW.trod_array ht hx
         have go:∀ (j p:Nat),p+j=k→∃ as,okAs (catN j d) as∧Cells Z w th0 as ((cs.drop (p * d.length)).take (j * d.length)):=by
          intro j
          induction j with
          | zero=>intro p _; exact ⟨[],trivial,by simpa using Cells.nil _ _ _⟩
          | succ j ihj=>
            intro p hp
            obtain ⟨bs,hb,hc'⟩:=ihj (p+1) (by omega)
            have h1:=hf p (by omega)
            rw [List.getElem?_eq_getElem (by omega)] at h1
            obtain ⟨as,ha,hc⟩:=ih _ _ _ _ _ hd h1
            refine ⟨as ++ bs,okAs_append ha hb,?_⟩
            have e1:(cs.drop (p * d.length)).take ((j+1) * d.length) =(cs.drop (p * P.cellsOf e)).take (P.cellsOf e) ++ (cs.drop ((p+1) * d.length)).take (j * d.length):=by
             rw [← hdl.1,show (j+1) * d.length=d.length+j * d.length by rw [Nat.succ_mul,Nat.add_comm],List.take_add,List.drop_drop,show (p+1) * d.length=p * d.length+d.length by rw [Nat.succ_mul]]
            rw [e1]
            exact hc.append hc'
         obtain ⟨as,ha,hc⟩:=go k 0 (by omega)
         refine ⟨as,ha,?_⟩
         have:(cs.drop (0 * d.length)).take (k * d.length) =cs:=by simp [hdl.2,← hcl]
         rwa [this] at hc
       · cases hD
     · cases hD
   · cases hD
variable {t:TypeId} {v:Value} {d:DataW H} {ps:List MemPlace} {r:Reach} {b0:Nat}
theorem arg_int (hZ:∀ b,b < w.heap.size→Z b) {k:IntKind}(ht:P.underlying t=some (.int k))(hv:Value.okWide P w r b0 t v)(hd:DataW.Trod enc P w base spare held t v d ps):
 ∃ n,(Lit.int k n).wf=true∧Rep Z w th0 (.int k n) v:=by
 obtain ⟨n,rfl⟩:=WideShapes.okWide_int ht hv
 obtain ⟨fuel,hf⟩:=hd
 obtain ⟨n',h,_,hw⟩:=DataW.trod_int ht hf
 simp [Value.cells] at h
 subst h
 exact ⟨_,hw,.int _ _ _⟩
theorem arg_sl (hZ:∀ b,b < w.heap.size→Z b) {e:TypeId}(ht:P.underlying t=some (.slice e))(n:Nat) {D:List CD}(hD:flat P n t=some [.sl D])(hv:Value.okWide P w r b0 t v)(hd:DataW.Trod enc P w base spare held t v d ps):
 ∃ es,es.length≤maxLen∧(∀ r∈es,okAs D r)∧Rep Z w th0 (.lst (D.map CD.zero) es) v:=by
 obtain ⟨a,len,cap,rfl⟩:=WideShapes.okWide_slice ht hv
 obtain ⟨fuel,hf⟩:=hd
 obtain ⟨as,ha,hc⟩:=trod_flat hZ n t _ _ _ _ hD hf
 match as,ha with
 | [a'],⟨⟨es,h1,h2,h3⟩,_⟩=>
   subst h1
   exact ⟨es,h2,h3,hc.rep 0 _ _ rfl (by simp [Value.cells])⟩
theorem Reps.nil':Reps Z w th0 [] []:=⟨rfl,by simp⟩
theorem Reps.cons' {x:AV} {v:Value} {xs:List AV} {vs:List Value}(h:Rep Z w th0 x v)(k:Reps Z w th0 xs vs):Reps Z w th0 (x::xs) (v::vs):=by
 refine ⟨by simp [k.len],?_⟩
 intro i c u hc hu
 cases i with
 | zero=>simp at hc hu; subst hc hu; exact h
 | succ i=>exact k.rep i c u (by simpa using hc) (by simpa using hu)
theorem law_calls {f:FuncId} {C:List AV→List AV→Option (Prop×AV×List AV)}(hS:Sound P f (.mk false C)) {xs:List AV} {vs:List Value}(hgl:Glb (λb=>b < w.heap.size) w)(hr:Reps (λb=>b < w.heap.size) w th0 xs vs) {q:Prop} {cs':List AV}(hC:C [] xs=some (q,.bool true,cs'))(hq:q):
 Calls P f vs.toArray w λe w'=>e= .returned (.bool true)∧Below w.heap.size w w':=by
 refine (hS _ w xs vs q _ cs' (λ_ h=>h) hgl hr hC hq).mono ?_
 rintro e w' ⟨u,Z',rfl,hF,_,hR⟩
 cases hR
 exact ⟨rfl,hF.os,hF.tape,hF.output,hF.size,λk hk=>hF.block k hk (λe=>e)⟩
theorem ex_map {α:Type} {f:α→List AV} {p:α→Prop}:∀ {es:List (List AV)},(∀ r∈es,∃ x,r=f x∧p x)→∃ l:List α,es=l.map f∧∀ x∈l,p x
 | [],_=>⟨[],rfl,by simp⟩
 | r::es,h=>by
   obtain ⟨l,hl,hp⟩:=ex_map (es:=es) (f:=f) (p:=p) (λr hr=>h r (List.mem_cons_of_mem _ hr))
   obtain ⟨x,hx,hpx⟩:=h r (by simp)
   exact ⟨x::l,by simp [hx,hl],by simp; exact ⟨hpx,hp⟩⟩
theorem ex_u8s {es:List (List AV)}(h:∀ r∈es,okAs [.int .u8] r):∃ l:List Int,es=u8s l∧∀ k∈l,0≤k∧k≤255:=by
 refine ex_map (λr hr=>?_)
 match r,h r hr with
 | [a],⟨⟨n,ha,hw⟩,_⟩=>
   subst ha
   exact ⟨n,rfl,bounds_u8 hw⟩
end
end Go.Ev
namespace Go.Ev
open Go Go.RowKit
variable (l:List Int)
abbrev W (n:Int):Int:=IntKind.i64.wrap n
def noI:Nat→LI:=λ_=>⟨Unit,λ_=>⟨[],[]⟩,λ_=>0,λ_ _=>True⟩
def decU (es:List (List AV)):List Int:=es.map λe=>match e with
 | [.int _ n]=>n
 | _=>0
theorem Qh0:decU (u8s l) =l:=by
 simp only [decU,u8s,List.map_map]
 exact (List.map_congr_left λ_ _=>rfl).trans (List.map_id l)
theorem Qg0:decU (i64s l) =l:=by
 simp only [decU,i64s,List.map_map]
 exact (List.map_congr_left λ_ _=>rfl).trans (List.map_id l)
theorem decU_nil:decU [] = []:=rfl
theorem decU_cons (k:IntKind)(n:Int)(es:List (List AV)):decU ([.int k n]::es) =n::decU es:=rfl
theorem Qf0 (z e:List AV)(es:List (List AV)):getE z (e::es) 0=e:=rfl
theorem u8s_join (a b:List Int):u8s a ++ u8s b=u8s (a ++ b):=by simp [u8s]
theorem Zx0 (n:Nat):(u8s l).take n=u8s (l.take n):=by simp [u8s]
theorem u8s_drop (n:Nat):(u8s l).drop n=u8s (l.drop n):=by simp [u8s]
theorem u8s_snoc (k:Int):u8s l ++ [[AV.int .u8 k]] =u8s (l ++ [k]):=by simp [u8s]
theorem u8s_snoc2 (k j:Int):u8s l ++ [[AV.int .u8 k],[AV.int .u8 j]] =u8s (l ++ [k,j]):=by simp [u8s]
theorem i64s_snoc (k:Int):i64s l ++ [[AV.int .i64 k]] =i64s (l ++ [k]):=by simp [i64s]
def b8 (l:List Int):List UInt8:=l.map λk=>UInt8.ofNat k.toNat
def Okb (L:List Int):Prop:=∀ k∈L,0≤k∧k≤255
theorem Okb.nil:Okb []:=λ_ h=>by cases h
theorem Okb.app {a b:List Int}(ha:Okb a)(hb:Okb b):Okb (a ++ b):=λk hk=>(List.mem_append.1 hk).elim (ha k) (hb k)
theorem Okb.cons {a:Int} {b:List Int}(ha:0≤a∧a≤255)(hb:Okb b):Okb (a::b):=λk hk=>(List.mem_cons.1 hk).elim (λe=>e▸ha) (hb k)
theorem Okb.take {a:List Int}(h:Okb a)(n:Nat):Okb (a.take n):=λk hk=>h k (List.mem_of_mem_take hk)
theorem Okb.drop {a:List Int}(h:Okb a)(n:Nat):Okb (a.drop n):=λk hk=>h k (List.mem_of_mem_drop hk)
theorem Okb.getD {a:List Int}(h:Okb a)(i:Nat):0≤a.getD i 0∧a.getD i 0≤255:=getD_all (p:=λk=>0≤k∧k≤255) h (by decide) i
theorem take_snoc {α:Type}(l:List α)(d:α)(i:Nat)(h:i < l.length):l.take (i+1) =l.take i ++ [l.getD i d]:=by
 rw [List.take_add_one,List.getD_eq_getElem?_getD,List.getElem?_eq_getElem h]; rfl
theorem drop_cons {α:Type}(l:List α)(d:α)(i:Nat)(h:i < l.length):l.drop i=l.getD i d::l.drop (i+1):=by
 rw [List.drop_eq_getElem_cons h,List.getD_eq_getElem?_getD,List.getElem?_eq_getElem h]; rfl
theorem wr_succ (i:Nat)(h:(i:Int) < 9223372036854775807):IntKind.i64.wrap ((i:Int)+1) =((i+1:Nat):Int):=by rw [wr_in _ (by omega) (by omega)]; omega
theorem ex_i64s {es:List (List AV)}(h:∀ r∈es,okAs [.int .i64] r):∃ l:List Int,es=i64s l:=by
 have key:∀ r∈es,∃ x:Int,r= [AV.int .i64 x]∧True:=by
  intro r hr
  obtain ⟨n,_,rfl,_,k⟩:=un_int (h r hr)
  obtain rfl:=okAs_unnil k
  exact ⟨n,rfl,trivial⟩
 obtain ⟨l,hl,_⟩:=ex_map key
 exact ⟨l,hl⟩
theorem own_of_ext {P:Program} {f:FuncId} {T:Nat} {z:List AV} {fn:List AV→Option (Prop×List (List AV))} {D:List AV→List AV→Option (Prop×(Unit→Prop×AV×List AV))}(h:Sound P f (.ext false Unit D))
 (hd:∀ xs q es,fn xs=some (q,es)→∃ g,D [] xs=some (q,g)∧g () =(True,.fr 0 T z es,[])):Sound P f (.own T z fn):=by
 intro Z w xs vs q es hz hgl hr hf hq
 obtain ⟨g,hD,hg⟩:=hd xs q es hf
 refine (h Z w xs vs q g hz hgl hr hD hq).mono ?_
 rintro e w' ⟨_,v,Z',θ,_,he,hF,hG,hR,hO⟩
 rw [hg] at hR hO
 refine ⟨v,Z',he,hF,hG,?_⟩
 have hR:Rep Z' w' θ (.vw 0 0 0 0) v:=hR
 have h0:=hO.rep 0 (.buf T z es) (by simp [frs2,frs1,frs0])
 have h1:=hO.new 0 (.buf T z es) (by simp [frs2,frs1,frs0])
 obtain ⟨hz0,hrows,us,hown,hnz,hc⟩:=h0
 cases hR with
 | vw _ _ _ _ _ a n c hθ=>
   rw [hθ] at hown h1 hnz
   exact ⟨hz0,hrows,⟨_,_,_,rfl⟩,λb hb=>⟨h1 b hb,hnz b hb⟩,us,hown,hc⟩
end Go.Ev
namespace Go.Ev
open Go Go.RowKit
variable (K:St→Prop)(L l os:List (Nat×Nat))(b:Bool)(bs:List (Nat×Blk))(cs z:List AV)(d f i j n nm o p r t u x y:Nat)(es:List (List AV))(ho:List Nat)(k:IntKind)(m:Nat→Option Blk)(s:Nat→AV)(xs:List A)(Φ:Nat→Option Ctr)(σ:St)
theorem lendX_int (n:Int):lendX m (AV.int k n) =some ((AV.int k n),[]):=by rfl
theorem lendO0_int (n:Int):lendO0 m (AV.int k n) =some ((AV.int k n),[]):=by rfl
theorem lendX_bool:lendX m (AV.bool b) =some ((AV.bool b),[]):=by rfl
theorem lendO0_bool:lendO0 m (AV.bool b) =some ((AV.bool b),[]):=by rfl
theorem lendX_str (s:List UInt8):lendX m (AV.str s) =some ((AV.str s),[]):=by rfl
theorem lendX_agg:lendX m (AV.agg cs) =aggL (lendC m cs):=by rfl
theorem lendX_lst:lendX m (AV.lst z es) =some ((AV.lst z es),[]):=by rfl
theorem lendX_ep:lendX m (AV.ep z es i o) =some ((AV.ep z es i o),[]):=by rfl
theorem lendX_ptr:lendX m (.ptr r o) =lendOb m r o (m r):=by rfl
theorem lendO0_ptr:lendO0 m (AV.ptr r o) =some (.junk,[]):=by rfl
theorem lendX_vw:lendX m (AV.vw r x y u) =lendB r (m r):=by rfl
theorem lendO0_vw:lendO0 m (AV.vw r x y u) =lendB r (m r):=by rfl
theorem lendX_fn:lendX m (AV.fn f) =some ((AV.fn f),[]):=by rfl
theorem lendX_nil:lendX m AV.nil=some (AV.nil,[]):=by rfl
theorem lendO0_nil:lendO0 m AV.nil=some (AV.nil,[]):=by rfl
theorem lendO0_junk:lendO0 m AV.junk=some (.junk,[]):=by rfl
theorem lendsX_nil:lendsX m [] =some ([],[]):=by rfl
theorem lendsX_cons (x:AV)(xs:List AV):lendsX m (x::xs) =consL (lendX m x) (lendsX m xs):=by rfl
theorem lendOL_nil:lendOL m [] =some ([],[]):=by rfl
theorem lendOL_cons (x:AV)(xs:List AV):lendOL m (x::xs) =consL (lendO0 m x) (lendOL m xs):=by rfl
theorem lendOb_cells:lendOb m r o (some (.cells cs)) =lendOE r o (lendOL m cs):=by rfl
theorem lendOE_some (bs:List Nat):lendOE r o (some (cs,bs)) =some (.ep cs [cs] 0 o,r::bs):=by rfl
theorem un1_nilchk_ep (x:A):un1 (.nilchk x) (.ep z es i o) =some ⟨[],[],.ep z es i o,[],none,[]⟩:=by rfl
theorem ev_pv (k:PV)(p:List (Nat×Bool)):evOp Φ (.pv k xs) d p σ=pvO k (avs σ p xs):=by rfl
theorem pvO_some' (k:PV)(vs:List AV):pvO k (some vs) =pvR k vs:=by rfl
theorem needD_pv (k:PV):needD (.pv k xs) =false:=by rfl
theorem eo_pv (dst:Option Nat)(k:PV)(g:Option (Nat×Bool))(af:List Nat)(rest:List RO):evOps Φ (⟨dst,.pv k xs,g,af⟩::rest) σ K=goF Φ rest K dst (.pv k xs) g af σ:=by
 cases dst<;>cases g<;>(simp only [evOps,strOf,extOf,preF,frzL,goF,goOp]; cases evG Φ _ _<;>rfl)
theorem pv_shl (k2:IntKind)(a b:Int):pvR (.shv true) [.int k a,.int k2 b] =some ⟨[0≤b],[],.int k (k.wrap (a * 2 ^ (min b.toNat k.bits))),[],none,[]⟩:=by rfl
theorem pv_shr (k2:IntKind)(a b:Int):pvR (.shv false) [.int k a,.int k2 b] =some ⟨[0≤b],[],.int k (a.fdiv (2 ^ (min b.toNat k.bits))),[],none,[]⟩:=by rfl
theorem pv_sadd (a b:List UInt8):pvR .sadd [.str a,.str b] =some ⟨[((a.length+b.length:Nat):Int)≤9223372036854775807],[],.str (a ++ b),[],none,[]⟩:=by rfl
theorem pv_ssl_tt (s:List UInt8)(k2:IntKind)(l h:Int):pvR (.ssl true true) [.str s,.int k l,.int k2 h] =some ⟨[0≤l∧l≤h∧h≤s.length],[],.str ((s.drop l.toNat).take (h.toNat - l.toNat)),[],none,[]⟩:=by rfl
theorem pv_nilp_ptr (n:Bool):pvR (.nilp n) [.ptr r o] =some ⟨[],[],.bool n,[],none,[]⟩:=by rfl
theorem pv_glob (j:Int):pvR .glob [.int k j] =some ⟨[0≤j∧j < 6],[],.ep glbA [glbA] 0 (sel 6 j),[],none,[]⟩:=by rfl
def toArrK (n:Nat)(z:List AV)(es:List (List AV)):Nat→Option Res
 | 1=>some ⟨[0 < n∧n≤es.length],[],.ep (toArrL z es n) [toArrL z es n] 0 0,[],none,[]⟩
 | _=>none
theorem pv_toArr:pvR (.toArr n) [.lst z es] =toArrK n z es z.length:=by rfl
theorem toArrK_1:toArrK n z es 1=some ⟨[0 < n∧n≤es.length],[],.ep (toArrL z es n) [toArrL z es n] 0 0,[],none,[]⟩:=by rfl
theorem toArrL_3:toArrL z es 3= [(getE z es 0).getD 0 .junk,(getE z es 1).getD 0 .junk,(getE z es 2).getD 0 .junk]:=by rfl
theorem evCl_gr (Φ:Nat→Option Ctr)(d f:Nat)(xs:List A)(af:List Nat)(rest:List RO)(σ:St)(K:St→Prop)(ι:Type)(ho:List Nat)(fz:Bool)(fn:List (Nat×Blk)→List AV→Option (Prop×(ι→Prop×AV×List (Nat×Blk)))):evCl Φ d f xs af rest σ K (some (.gr ι ho fz fn)) =evGX ι ho fn d xs (frzF fz xs σ) (evOpsk Φ rest K):=by rfl
theorem frzF_t:frzF true xs σ=frzL (argF σ xs) σ:=by rfl
theorem frzF_f:frzF false xs σ=σ:=by rfl
theorem argF_nil:argF σ [] = []:=by rfl
theorem argF_cons (x:A):argF σ (x::xs) =vws1 (ar σ x) ++ argF σ xs:=by rfl
theorem evGX_eq (ι:Type)(ho:List Nat)(fn:List (Nat×Blk)→List AV→Option (Prop×(ι→Prop×AV×List (Nat×Blk))))(d:Nat)(xs:List A)(σ:St)(K:St→Prop):evGX ι ho fn d xs σ K=evGV ι ho fn d σ K (avs σ [] xs):=by rfl
theorem evGV_some (ι:Type)(ho:List Nat)(fn:List (Nat×Blk)→List AV→Option (Prop×(ι→Prop×AV×List (Nat×Blk))))(d:Nat)(s:Nat→AV)(m:Nat→Option Blk)(K:St→Prop)(vs:List AV):evGV ι ho fn d ⟨s,m⟩ K (some vs) =evGC ι ho fn d (gatO m 24 (ptrL vs) []) vs ⟨s,m⟩ K:=by rfl
theorem evGC_eq (ι:Type)(ho:List Nat)(fn:List (Nat×Blk)→List AV→Option (Prop×(ι→Prop×AV×List (Nat×Blk))))(d:Nat)(os:List Nat)(vs:List AV)(s:Nat→AV)(m:Nat→Option Blk)(K:St→Prop):evGC ι ho fn d os vs ⟨s,m⟩ K=evGE ι fn d (zipN 0 os ++ zipR ho 0 (rowL vs ++ gatR m os)) vs ⟨s,m⟩ K:=by rfl
theorem evGE_eq (ι:Type)(fn:List (Nat×Blk)→List AV→Option (Prop×(ι→Prop×AV×List (Nat×Blk))))(d:Nat)(L:List (Nat×Nat))(vs:List AV)(s:Nat→AV)(m:Nat→Option Blk)(K:St→Prop):evGE ι fn d L vs ⟨s,m⟩ K=evGF ι fn d L vs ⟨s,m⟩ K (inpL m L L):=by rfl
theorem evGF_some (ι:Type)(fn:List (Nat×Blk)→List AV→Option (Prop×(ι→Prop×AV×List (Nat×Blk))))(d:Nat)(L:List (Nat×Nat))(vs:List AV)(σ:St)(K:St→Prop)(bs:List (Nat×Blk)):evGF ι fn d L vs σ K (some bs) =((nodupN (L.map (·.1)) && nodupN (L.map (·.2))) =true∧evGN ι d (unz L) (L.map (·.1)) σ K (fn bs (vs.map (mapA1 L)))):=by rfl
theorem evGN_some (ι:Type)(dr:List Nat)(q:Prop)(g:ι→Prop×AV×List (Nat×Blk)):evGN ι d os dr σ K (some (q,g)) =(q∧∀ i,evGO d os dr σ K (g i)):=by rfl
theorem evGO_eq (dr:List Nat)(p:Prop)(v:AV):evGO d os dr σ K (p,v,bs) =(p→evGP d os dr σ K v bs (bidL d os 0 bs)):=by rfl
theorem evGP_eq (dr:List Nat)(v:AV):evGP d os dr σ K v bs L=((okN os bs && (nodupN (bs.map (·.1)) && decide (bs.length≤64))) =true∧(nodupN (L.map (·.2)) && bs.all (λb=>liveG b.2)) =true∧K (putG d (mapA2 L v) (putL L L bs (newL d os 0 bs (drpL dr σ))))):=by rfl
theorem ptr0_int (n:Int):ptr0 (AV.int k n) = []:=by rfl
theorem row0_int (n:Int):row0 (AV.int k n) = []:=by rfl
theorem mapA0_int (n:Int):mapA0 L (AV.int k n) =(AV.int k n):=by rfl
theorem mapA1_int (n:Int):mapA1 L (AV.int k n) =(AV.int k n):=by rfl
theorem mapA2_int (n:Int):mapA2 L (AV.int k n) =(AV.int k n):=by rfl
theorem ptr0_bool:ptr0 (AV.bool b) = []:=by rfl
theorem row0_bool:row0 (AV.bool b) = []:=by rfl
theorem mapA0_bool:mapA0 L (AV.bool b) =(AV.bool b):=by rfl
theorem mapA1_bool:mapA1 L (AV.bool b) =(AV.bool b):=by rfl
theorem mapA2_bool:mapA2 L (AV.bool b) =(AV.bool b):=by rfl
theorem ptr0_agg:ptr0 (AV.agg cs) = []:=by rfl
theorem row0_agg:row0 (AV.agg cs) = []:=by rfl
theorem mapA1_agg:mapA1 L (AV.agg cs) =AV.agg (cs.map (mapA0 L)):=by rfl
theorem mapA2_tup (vs:List AV):mapA2 L (AV.tup vs) =AV.tup (vs.map (mapA1 L)):=by rfl
theorem ptr0_lst:ptr0 (AV.lst z es) = []:=by rfl
theorem row0_lst:row0 (AV.lst z es) = []:=by rfl
theorem mapA1_lst:mapA1 L (AV.lst z es) =(AV.lst z es):=by rfl
theorem ptr0_ptr:ptr0 (AV.ptr r o) = [r]:=by rfl
theorem row0_ptr:row0 (AV.ptr r o) = []:=by rfl
theorem mapA0_ptr:mapA0 L (AV.ptr r o) =mapP o (lookN L r):=by rfl
theorem mapA1_ptr:mapA1 L (AV.ptr r o) =mapP o (lookN L r):=by rfl
theorem ptr0_ap:ptr0 (AV.ap r x y u) = []:=by rfl
theorem row0_ap:row0 (AV.ap r x y u) = [r]:=by rfl
theorem mapA1_ap:mapA1 L (AV.ap r x y u) =mapQ (lookN L r):=by rfl
theorem mapA2_ap:mapA2 L (AV.ap r x y u) =mapQ (lookN L r):=by rfl
theorem ptr0_vw:ptr0 (AV.vw r x y u) = []:=by rfl
theorem row0_vw:row0 (AV.vw r x y u) = [r]:=by rfl
theorem mapA0_vw:mapA0 L (AV.vw r x y u) =mapV (lookN L r):=by rfl
theorem mapA1_vw:mapA1 L (AV.vw r x y u) =mapV (lookN L r):=by rfl
theorem mapA2_vw:mapA2 L (AV.vw r x y u) =mapV (lookN L r):=by rfl
theorem ptr0_nil:ptr0 AV.nil= []:=by rfl
theorem row0_nil:row0 AV.nil= []:=by rfl
theorem mapA0_nil:mapA0 L AV.nil=AV.nil:=by rfl
theorem mapA1_nil:mapA1 L AV.nil=AV.nil:=by rfl
theorem mapA0_junk:mapA0 L AV.junk=AV.junk:=by rfl
theorem mapP_some:mapP o (some r) = .ptr r o:=by rfl
theorem mapV_some:mapV (some r) = .vw r 0 0 0:=by rfl
theorem mapQ_some:mapQ (some r) = .ap r 0 0 0:=by rfl
theorem mapB_cells:mapB L (.cells cs) = .cells (cs.map (mapA0 L)):=by rfl
theorem mapB_buf:mapB L (.buf t z es) = .buf t z es:=by rfl
theorem mapB_clo:mapB L (.clo f z es i o) = .clo f z es i o:=by rfl
theorem ptrL_nil:ptrL [] = []:=by rfl
theorem ptrL_cons (x:AV)(xs:List AV):ptrL (x::xs) =ptr0 x ++ ptrL xs:=by rfl
theorem rowL_nil:rowL [] = []:=by rfl
theorem rowL_cons (x:AV)(xs:List AV):rowL (x::xs) =row0 x ++ rowL xs:=by rfl
theorem ptrB_cells:ptrB (some (.cells cs)) =ptrL cs:=by rfl
theorem rowB_cells:rowB (some (.cells cs)) =rowL cs:=by rfl
def gatK (m:Nat→Option Blk)(n r:Nat)(t acc:List Nat):Bool→List Nat
 | true=>gatO m n t acc
 | false=>gatO m n (ptrB (m r) ++ t) (acc ++ [r])
theorem gatO_nil (acc:List Nat):gatO m (n+1) [] acc=acc:=by rfl
theorem gatO_cons (t acc:List Nat):gatO m (n+1) (r::t) acc=gatK m n r t acc (acc.contains r):=by simp only [gatO,gatK]; cases acc.contains r<;>rfl
theorem gatK_f (t acc:List Nat):gatK m n r t acc false=gatO m n (ptrB (m r) ++ t) (acc ++ [r]):=by rfl
theorem gatR_nil:gatR m [] = []:=by rfl
theorem gatR_cons (rs:List Nat):gatR m (r::rs) =rowB (m r) ++ gatR m rs:=by rfl
theorem zipN_nil:zipN n [] = []:=by rfl
theorem zipN_cons (l:List Nat):zipN n (r::l) =(r,n)::zipN (n+1) l:=by rfl
theorem zipR_nil:zipR ho n [] = []:=by rfl
theorem zipR_cons (l:List Nat):zipR ho n (r::l) =(r,rowN ho n (ho.contains n))::zipR ho (n+1) l:=by rfl
theorem rowN_t:rowN ho i true=1048576+i:=by rfl
theorem rowN_f:rowN ho i false=32+i:=by rfl
theorem lookN_nil:lookN [] x=none:=by rfl
theorem lookN_cons (a b:Nat):lookN ((a,b)::l) x=if x=a then some b else lookN l x:=by rfl
theorem okIn_cells:okIn r j (.cells cs) =decide (j < 64):=by rfl
theorem okIn_buf:okIn r j (.buf t z es) =(decide (j < 64) || decide (64≤r)):=by rfl
theorem okIn_clo:okIn r j (.clo f z es i o) =true:=by rfl
def inK (L:List (Nat×Nat))(j:Nat)(b:Blk)(bs:List (Nat×Blk)):Bool→Option (List (Nat×Blk))
 | true=>some ((j,mapB L b)::bs)
 | false=>none
theorem inC_some (b:Blk):inC L r j (some b) (some bs) =inK L j b bs (okIn r j b):=by simp only [inC,inK]; cases okIn r j b<;>rfl
theorem inK_t (b:Blk):inK L j b bs true=some ((j,mapB L b)::bs):=by rfl
theorem inpL_nil:inpL m L [] =some []:=by rfl
theorem inpL_cons:inpL m L ((r,j)::l) =inC L r j (m r) (inpL m L l):=by rfl
theorem bidO_some:bidO d p nm (some r) =(nm,r):=by rfl
theorem bidO_none:bidO d p nm none=(nm,64 * d+64+p):=by rfl
def unzK (j r:Nat)(l:List (Nat×Nat)):Bool→List (Nat×Nat)
 | true=>(j,r)::l
 | false=>l
theorem unz_nil:unz [] = []:=by rfl
theorem unz_cons:unz ((r,j)::l) =unzK j r (unz l) (decide (j < 64)):=by simp only [unz,unzK]; cases decide (j < 64)<;>rfl
theorem unzK_t:unzK j r l true=(j,r)::l:=by rfl
theorem unzK_f:unzK j r l false=l:=by rfl
theorem bidL_nil:bidL d os p [] = []:=by rfl
theorem bidL_cons (b:Blk)(l:List (Nat×Blk)):bidL d os p ((nm,b)::l) =bidO d p nm (lookN os nm)::bidL d os (p+1) l:=by rfl
theorem okN_nil:okN os [] =true:=by rfl
theorem okN_cons (b:Blk)(l:List (Nat×Blk)):okN os ((nm,b)::l) =(((lookN os nm).isSome || decide (64≤nm)) && okN os l):=by rfl
theorem drpL_nil:drpL [] σ=σ:=by rfl
theorem drpL_cons (l:List Nat):drpL (r::l) ⟨s,m⟩ =drpL l ⟨s,updM m r none⟩:=by rfl
theorem newK_some:newK d p σ (some r) =σ:=by rfl
theorem newK_none:newK d p ⟨s,m⟩ none= ⟨killS (64 * d+64+p) s,updM (killM (64 * d+64+p) m) (64 * d+64+p) none⟩:=by rfl
theorem newL_nil:newL d os p [] σ=σ:=by rfl
theorem newL_cons (b:Blk)(l:List (Nat×Blk)):newL d os p ((nm,b)::l) σ=newL d os (p+1) l (newK d p σ (lookN os nm)):=by rfl
theorem putL_nil:putL L [] bs σ=σ:=by rfl
theorem putL_cons (n2:Nat)(b:Blk):putL L ((n,r)::l) ((n2,b)::bs) ⟨s,m⟩ =putL L l bs ⟨s,updM m r (some (mapB L b))⟩:=by rfl
theorem putG_eq (v:AV):putG d v ⟨s,m⟩ = ⟨upd s d v,m⟩:=by rfl
theorem liveG_cells:liveG (.cells cs) =true:=by rfl
theorem liveG_buf:liveG (.buf t z es) =true:=by rfl
theorem liveG_clo:liveG (.clo f z es i o) =true:=by rfl
def retGG (rv:List RV)(σ:St):Prop×AV×List (Nat×Blk)→Prop
 | (p,r,b)=>p∧retG rv r b σ
theorem kRetG_r {ι:Type}(rv:List RV)(g:ι→Prop×AV×List (Nat×Blk))(σ:St):kRetG rv g .ret σ= ∃ i,retGG rv σ (g i):=by rfl
theorem kRetG_n {ι:Type}(rv:List RV)(g:ι→Prop×AV×List (Nat×Blk))(σ:St):kRetG rv g .normal σ= ∃ i,retGG rv σ (g i):=by rfl
theorem retGG_eq (rv:List RV)(p:Prop)(r:AV)(b:List (Nat×Blk)):retGG rv σ (p,r,b) =(p∧retG rv r b σ):=by rfl
theorem retG_eq (rv:List RV)(r:AV)(b:List (Nat×Blk)):retG rv r b ⟨s,m⟩ =retG0 rv r b (applyL (lkR (retL ⟨s,m⟩ rv) r ++ lkM (lookM b) m b) ⟨s,m⟩):=by rfl
theorem retG0_eq (rv:List RV)(r:AV)(b:List (Nat×Blk)):retG0 rv r b ⟨s,m⟩ =(rtO r (retL ⟨s,m⟩ rv)∧leM m b):=by simp only [retG0]; cases retL ⟨s,m⟩ rv<;>rfl
theorem evC_bar (I:Nat→LI)(l1:List RO)(o:RO)(l2:List RO)(K:Exit→St→Prop):evC Φ I (.bar l1 o l2) σ K=(barOK l1 o l2=true∧evD Φ l1 0 [] (preK l1 σ) (kBar1 Φ l1.length o l2 (kN K))):=by rfl
theorem kBar1_eq (o:RO)(l2:List RO):kBar1 Φ n o l2 K σ=evOps Φ [o] σ (kBar2 Φ n l2 K):=by rfl
theorem kBar2_eq (l2:List RO):kBar2 Φ n l2 K σ=evD Φ l2 (n+1) [] (preK l2 σ) K:=by rfl
def cpSK (r t lo hi:Nat)(z:List AV)(es ys:List (List AV))(t':List Nat):Bool→Option Res
 | true=>some ⟨[lo < hi∧hi≤es.length∧0 < ys.length],[],.int .i64 ((min ys.length (hi - lo):Nat):Int),[(r,.buf t z (es.take lo ++ ys.take (hi - lo) ++ es.drop (lo+min ys.length (hi - lo))))],none,r::t'⟩
 | false=>none
theorem cpR_sv (sz s lo hi:Nat)(y:AV):cpR m sz (.sv r s lo hi) y=cpS sz s r lo hi (m r) (ysOf m 1 y):=by rfl
theorem cpS_buf (sz s lo hi:Nat)(ys:List (List AV))(t':List Nat):cpS sz s r lo hi (some (.buf t z es)) (some (ys,t')) =cpSK r t lo hi z es ys t' (decide (sz=1∧(s=1∧z.length=1))):=by simp only [cpS,cpSK]; cases decide (sz=1∧(s=1∧z.length=1))<;>rfl
theorem cpSK_t (lo hi:Nat)(ys:List (List AV))(t':List Nat):cpSK r t lo hi z es ys t' true=some ⟨[lo < hi∧hi≤es.length∧0 < ys.length],[],.int .i64 ((min ys.length (hi - lo):Nat):Int),[(r,.buf t z (es.take lo ++ ys.take (hi - lo) ++ es.drop (lo+min ys.length (hi - lo))))],none,r::t'⟩:=by rfl
theorem lkR_zero (ys:List AV):lkR (some []) (.tup ys) =lkVs [] ys:=by rfl
theorem resV_zero (ys:List AV):resV [] (.tup ys) =leVs [] ys:=by rfl
end Go.Ev
namespace Go.Ev
set_option maxRecDepth 20000
theorem j {a b:Prop}(x:a)(y:b):a∧b:=⟨x,y⟩
abbrev pk:=(j (j (j (j (j (j (j (j (j (j @gvB_true (j @killO_none @killO_some)) (j (j @consO_some @mmO_some) (j @iasB_true @iaA_some))) (j (j (j @ldV_some @ldB_cells) (j @valB_true @stC_true)) (j (j @stB_cells @bxO_some) (j @blO_some @blS_some)))) (j (j (j (j @faK_some @faC_some) (j @fsK_some @fsC_some)) (j (j @condK_bool @kEndB_t) (j @kEndB_f @kBlkB_t))) (j (j (j @rtO_some @rtM_cells) (j @rvP_ptr @rvB_cells)) (j (j @leA_nil @leA_nilnil) (j @leV1_agg @leV1_nil))))) (j (j (j (j @leAs_nil (j @leAs_cons @leVs_nil)) (j (j @leVs_cons @resV_one) (j @resV_two @evOps_nil))) (j (j (j @goOp_some @evG_no) (j @evG_yes @gG_some)) (j (j @pathG_bool @pathG_gd) (j @guardR_q @guardL_nil)))) (j (j (j (j @guardL_cons @pathP_nil) (j @pathP_cons @boolOf_bool)) (j (j @boolOf_gd @askL_nil) (j @askL_cons @knowL_nil))) (j (j (j @knowL_cons @put_q) (j @put_u @put_n)) (j (j @put_s @upd_at) (j @updM_at @killS_at)))))) (j (j (j (j (j @ungdS_at (j @killM_at @killB_cells)) (j (j @av_t @av_c) (j @ar_t @ar_c))) (j (j (j @avs_nil @avs_cons) (j @bind1_some' @bind2_some')) (j (j @ev_mov @ev_not) (j @ev_neg @ev_conv)))) (j (j (j (j @ev_extract @ev_nilchk) (j @un1_mov @un1_not)) (j (j @un1_neg @un1_conv) (j @un1_nilchk @un1_extract))) (j (j (j @toR_some' @ev_pick) (j @pick3_some @pickV_bool)) (j (j @ev_arith @arith_add) (j @arith_sub @arith_mul))))) (j (j (j (j (j @arith_and @arith_or) (j @arith_xor @arith_andNot)) (j (j @arith_quo @arith_rem) (j @ev_cmp @cmp2_some))) (j (j (j @cmp_eql @cmp_neq) (j @cmp_lss @cmp_leq)) (j (j @cmp_gtr @cmp_geq) (j @cmp_neqB @ev_len)))) (j (j (j (j @len_lst @len_nil) (j @len_str @ev_minmax)) (j (j @mm_nil @mm_max) (j @mm_min @ev_faddr))) (j (j (j @faddr_ptr @faddr_ep) (j @ev_iaddrS @ev_iaddrA)) (j (j @iaddrA_ptr @ev_load) (j @load_ptr @load_ep))))))) (j (j (j (j (j (j @valOf_agg (j @valOf_one @ev_store)) (j (j @store_ptr @setC_nil) (j @setC_cons @cells_agg))) (j (j (j @cells_int @cells_bool) (j @cells_str @cells_lst)) (j (j @cells_ptr @cells_vw) (j @cells_nil @ev_alloc)))) (j (j (j (j @ev_box @boxR_eq) (j @ev_build @ev_bslice)) (j (j @fillA_nil @fillA_cons) (j @fillS_nil @fillS_cons))) (j (j (j @ev_call @c0_int) (j @c1_int @c2_int)) (j (j @c0_bool @c1_bool) (j @c2_bool @c0_str))))) (j (j (j (j @c0_lst (j @c1_lst @c2_lst)) (j (j @c0_nil @c2_nil) (j @c1_agg @c2_agg))) (j (j (j @c2_tup @evC_skip) (j @evC_region @evC_seq)) (j (j @evC_cond @evC_block) (j @evC_loop @evC_exit)))) (j (j (j (j @evC_ret @kEnd_at) (j @hasG_nil @hasG_no)) (j (j @hasG_yes @kSeq_n) (j @kSeq_e @kSeq_r))) (j (j (j @kBlk_n @kBlk_r) (j @kBlk_e @kLoop_n)) (j (j @kLoop_e @kLoop_r) (j @kRet_r @retL_nil)))))) (j (j (j (j (j @retL_cons (j @retV_t @retV_c)) (j (j @initM_f @initM_t) (j @initS_at @lookL_cons))) (j (j (j @lookM_nil @lookM_cons) (j @SL_st @evC_draw)) (j (j @evD_nil @evD_cons) (j @evDk_some @newOK_none)))) (j (j (j (j @newOK_some @pairD_nil) (j @pairD_cons @pairOK_eq)) (j (j @pairB_t @pairB_f) (j @newMen_none @newMen_some))) (j (j (j @noMen_eq @noB_none) (j @noB_some @chkR_eq)) (j (j @newI_none @newI_some) (j @optN_none @optN_some))))) (j (j (j (j (j @disjN_nil @disjN_cons) (j @pslots_gd @pslots_int)) (j (j @pslots_bool @pslots_agg) (j @pslots_tup @pslots_lst))) (j (j (j @pslots_ep @pslots_ptr) (j @pslots_nil @pslots_junk)) (j (j @knowD_nil @knowD_cons) (j @preK_nil @preK_none)))) (j (j (j (j @preK_some @preB_t) (j @preB_f @needD_alloc)) (j (j @needD_box @needD_mov) (j @needD_pick @needD_arith))) (j (j (j @needD_cmp @needD_eqa) (j @needD_not @needD_conv)) (j (j @needD_len @needD_faddr) (j @needD_iaddrS @needD_iaddrA)))))))) (j (j (j (j (j (j (j @needD_load (j @needD_build @needD_bslice)) (j (j @needD_extract @needD_nilchk) (j @needD_call @needD_slice))) (j (j (j @needD_mkslice @needD_copy) (j @ev_append @appR_nil)) (j (j @appK_some @appV_buf) (j @ysOf_nil @ysOf_lst)))) (j (j (j (j @ysOf_vw @ysV_buf) (j @killB_buf @pslots_vw)) (j (j @len_vw @lenV_buf) (j @iaddrA_t @iaddrA_ept))) (j (j (j @gv_int @ungd_int) (j @kill3_int @kill0_int)) (j (j @frz3_int @frz0_int) (j @ren3_int @ren0_int))))) (j (j (j (j @leA_int (j @leV1_int @gv_bool)) (j (j @ungd_bool @kill3_bool) (j @kill0_bool @frz0_bool))) (j (j (j @ren3_bool @ren0_bool) (j @leA_bool @leV1_bool)) (j (j @gv_str @ungd_str) (j @kill0_str @leA_str)))) (j (j (j (j @leV1_str @gv_agg) (j @ungd_agg @kill3_agg)) (j (j @gv_tup @gv_lst) (j @ungd_lst @kill3_lst))) (j (j (j @kill0_lst @frz0_lst) (j @ren3_lst @ren0_lst)) (j (j @leA_lst @leV1_lst) (j @gv_ep @ungd_ep)))))) (j (j (j (j (j @kill3_ep (j @ren3_ep @leV1_ep)) (j (j @gv_ptr @ungd_ptr) (j @kill3_ptr @kill0_ptr))) (j (j (j @frz3_ptr @frz0_ptr) (j @ren3_ptr @ren0_ptr)) (j (j @gvB_true @killO_none) (j @killO_some @consO_some)))) (j (j (j (j @mmO_some @iasB_true) (j @iaA_some @ldV_some)) (j (j @ldB_cells @valB_true) (j @stC_true @stB_cells))) (j (j (j @bxO_some @blO_some) (j @blS_some @faK_some)) (j (j @faC_some @fsK_some) (j @fsC_some @condK_bool))))) (j (j (j (j (j @kEndB_t @kEndB_f) (j @kBlkB_t @rtO_some)) (j (j @rtM_cells @rvP_ptr) (j @rvB_cells @leA_nil))) (j (j (j @leA_nilnil @leV1_agg) (j @leV1_nil @leAs_nil)) (j (j @leAs_cons @leVs_nil) (j @leVs_cons @resV_one)))) (j (j (j (j @resV_two @evOps_nil) (j @goOp_some @evG_no)) (j (j @evG_yes @gG_some) (j @pathG_bool @pathG_gd))) (j (j (j @guardR_q @guardL_nil) (j @guardL_cons @pathP_nil)) (j (j @pathP_cons @boolOf_bool) (j @boolOf_gd @askL_nil))))))) (j (j (j (j (j (j @askL_cons (j @knowL_nil @knowL_cons)) (j (j @put_q @put_u) (j @put_n @put_s))) (j (j (j @upd_at @updM_at) (j @killS_at @ungdS_at)) (j (j @killM_at @killB_cells) (j @av_t @av_c)))) (j (j (j (j @ar_t @ar_c) (j @avs_nil @avs_cons)) (j (j @bind1_some' @bind2_some') (j @ev_mov @ev_not))) (j (j (j @ev_neg @ev_conv) (j @ev_extract @ev_nilchk)) (j (j @un1_mov @un1_not) (j @un1_neg @un1_conv))))) (j (j (j (j @un1_nilchk (j @un1_extract @toR_some')) (j (j @ev_pick @pick3_some) (j @pickV_bool @ev_arith))) (j (j (j @arith_add @arith_sub) (j @arith_mul @arith_and)) (j (j @arith_or @arith_xor) (j @arith_andNot @arith_quo)))) (j (j (j (j @arith_rem @ev_cmp) (j @cmp2_some @cmp_eql)) (j (j @cmp_neq @cmp_lss) (j @cmp_leq @cmp_gtr))) (j (j (j @cmp_geq @cmp_neqB) (j @ev_len @len_lst)) (j (j @len_nil @len_str) (j @ev_minmax @mm_nil)))))) (j (j (j (j (j @mm_max (j @mm_min @ev_faddr)) (j (j @faddr_ptr @faddr_ep) (j @ev_iaddrS @ev_iaddrA))) (j (j (j @iaddrA_ptr @ev_load) (j @load_ptr @load_ep)) (j (j @valOf_agg @valOf_one) (j @ev_store @store_ptr)))) (j (j (j (j @setC_nil @setC_cons) (j @cells_agg @cells_int)) (j (j @cells_bool @cells_str) (j @cells_lst @cells_ptr))) (j (j (j @cells_vw @cells_nil) (j @ev_alloc @ev_box)) (j (j @boxR_eq @ev_build) (j @ev_bslice @fillA_nil))))) (j (j (j (j (j @fillA_cons @fillS_nil) (j @fillS_cons @ev_call)) (j (j @c0_int @c1_int) (j @c2_int @c0_bool))) (j (j (j @c1_bool @c2_bool) (j @c0_str @c0_lst)) (j (j @c1_lst @c2_lst) (j @c0_nil @c2_nil)))) (j (j (j (j @c1_agg @c2_agg) (j @c2_tup @evC_skip)) (j (j @evC_region @evC_seq) (j @evC_cond @evC_block))) (j (j (j @evC_loop @evC_exit) (j @evC_ret @kEnd_at)) (j (j @hasG_nil @hasG_no) (j @hasG_yes @kSeq_n))))))))) (j (j (j (j (j (j (j (j @kSeq_e (j @kSeq_r @kBlk_n)) (j (j @kBlk_r @kBlk_e) (j @kLoop_n @kLoop_e))) (j (j (j @kLoop_r @kRet_r) (j @retL_nil @retL_cons)) (j (j @retV_t @retV_c) (j @initM_f @initM_t)))) (j (j (j (j @initS_at @lookL_cons) (j @lookM_nil @lookM_cons)) (j (j @SL_st @evC_draw) (j @evD_nil @evD_cons))) (j (j (j @evDk_some @newOK_none) (j @newOK_some @pairD_nil)) (j (j @pairD_cons @pairOK_eq) (j @pairB_t @pairB_f))))) (j (j (j (j @newMen_none (j @newMen_some @noMen_eq)) (j (j @noB_none @noB_some) (j @chkR_eq @newI_none))) (j (j (j @newI_some @optN_none) (j @optN_some @disjN_nil)) (j (j @disjN_cons @pslots_gd) (j @pslots_int @pslots_bool)))) (j (j (j (j @pslots_agg @pslots_tup) (j @pslots_lst @pslots_ep)) (j (j @pslots_ptr @pslots_nil) (j @pslots_junk @knowD_nil))) (j (j (j @knowD_cons @preK_nil) (j @preK_none @preK_some)) (j (j @preB_t @preB_f) (j @needD_alloc @needD_box)))))) (j (j (j (j (j @needD_mov (j @needD_pick @needD_arith)) (j (j @needD_cmp @needD_eqa) (j @needD_not @needD_conv))) (j (j (j @needD_len @needD_faddr) (j @needD_iaddrS @needD_iaddrA)) (j (j @needD_load @needD_build) (j @needD_bslice @needD_extract)))) (j (j (j (j @needD_nilchk @needD_call) (j @needD_slice @needD_mkslice)) (j (j @needD_copy @ev_append) (j @appR_nil @appK_some))) (j (j (j @appV_buf @ysOf_nil) (j @ysOf_lst @ysOf_vw)) (j (j @ysV_buf @killB_buf) (j @pslots_vw @len_vw))))) (j (j (j (j (j @lenV_buf @iaddrA_t) (j @iaddrA_ept @gv_int)) (j (j @ungd_int @kill3_int) (j @kill0_int @frz3_int))) (j (j (j @frz0_int @ren3_int) (j @ren0_int @leA_int)) (j (j @leV1_int @gv_bool) (j @ungd_bool @kill3_bool)))) (j (j (j (j @kill0_bool @frz0_bool) (j @ren3_bool @ren0_bool)) (j (j @leA_bool @leV1_bool) (j @gv_str @ungd_str))) (j (j (j @kill0_str @leA_str) (j @leV1_str @gv_agg)) (j (j @ungd_agg @kill3_agg) (j @gv_tup @gv_lst))))))) (j (j (j (j (j (j @ungd_lst (j @kill3_lst @kill0_lst)) (j (j @frz0_lst @ren3_lst) (j @ren0_lst @leA_lst))) (j (j (j @leV1_lst @gv_ep) (j @ungd_ep @kill3_ep)) (j (j @ren3_ep @leV1_ep) (j @gv_ptr @ungd_ptr)))) (j (j (j (j @kill3_ptr @kill0_ptr) (j @frz3_ptr @frz0_ptr)) (j (j @ren3_ptr @ren0_ptr) (j @leA_ptr @leV1_ptr))) (j (j (j @gv_ap @ungd_ap) (j @kill3_ap @frz3_ap)) (j (j @leV1_ap @gv_vw) (j @ungd_vw @kill3_vw))))) (j (j (j (j @kill0_vw (j @frz3_vw @frz0_vw)) (j (j @ren3_vw @ren0_vw) (j @leA_vw @leV1_vw))) (j (j (j @gv_sv @frz0_sv) (j @leV1_sv @gv_bp)) (j (j @gv_fn @leV1_fn) (j @gv_nil @ungd_nil)))) (j (j (j (j @kill3_nil @kill0_nil) (j @frz0_nil @ren0_nil)) (j (j @gv_junk @kill3_junk) (j @kill0_junk @leA_junk))) (j (j (j @leV1_junk @lk0_int) (j @lk0_bool @lk0_str)) (j (j @lk0_vw_lst @lk0_sv_lst) (j @lk0_nil @lk1_int)))))) (j (j (j (j (j @lk1_bool (j @lk1_str @lk1_agg)) (j (j @lk1_lst @lk1_ptr) (j @lk1_ap @lk1_vw_lst))) (j (j (j @lk1_vw_vw @lk1_vw_fr) (j @lk1_vw_nil @lk1_nil)) (j (j @lk1_junk @lkS_int) (j @lkS_bool @lkS_str)))) (j (j (j (j @lkS_agg @lkS_lst) (j @lkS_ep @lkS_ptr)) (j (j @lkS_ap @lkS_vw_vw) (j @lkS_vw_nil @lkS_sv_sv))) (j (j (j @lkS_fn @lkS_nil_vw) (j @lkS_nil_nil @lkC0_int)) (j (j @lkC0_bool @lkC0_str) (j @lkC0_lst @lkC0_ptr))))) (j (j (j (j (j @lkC0_vw_vw @lkC0_vw_nil) (j @lkC0_nil_vw @lkC0_nil_nil)) (j (j @lkC0_junk @unfr0_int) (j @unfr0_bool @unfr0_str))) (j (j (j @unfr1_int @unfr1_fr) (j @unfr2_str @unfr2_agg)) (j (j @unfr2_tup @unfr2_fr) (j @unfr2_fp @unfr2_nil)))) (j (j (j (j @frs0_int @frs0_bool) (j @frs0_str @frs0_lst)) (j (j @frs1_int @frs1_fr) (j @frs2_str @frs2_agg))) (j (j (j @frs2_tup @frs2_fr) (j @frs2_fp @frs2_nil)) (j (j @wfX0_int @wfX0_bool) (j @wfX0_str @wfX0_lst)))))))) (j (j (j (j (j (j (j @leA_ptr (j @leV1_ptr @gv_ap)) (j (j @ungd_ap @kill3_ap) (j @frz3_ap @leV1_ap))) (j (j (j @gv_vw @ungd_vw) (j @kill3_vw @kill0_vw)) (j (j @frz3_vw @frz0_vw) (j @ren3_vw @ren0_vw)))) (j (j (j (j @leA_vw @leV1_vw) (j @gv_sv @frz0_sv)) (j (j @leV1_sv @gv_bp) (j @gv_fn @leV1_fn))) (j (j (j @gv_nil @ungd_nil) (j @kill3_nil @kill0_nil)) (j (j @frz0_nil @ren0_nil) (j @gv_junk @kill3_junk))))) (j (j (j (j @kill0_junk (j @leA_junk @leV1_junk)) (j (j @lk0_int @lk0_bool) (j @lk0_str @lk0_vw_lst))) (j (j (j @lk0_sv_lst @lk0_nil) (j @lk1_int @lk1_bool)) (j (j @lk1_str @lk1_agg) (j @lk1_lst @lk1_ptr)))) (j (j (j (j @lk1_ap @lk1_vw_lst) (j @lk1_vw_vw @lk1_vw_fr)) (j (j @lk1_vw_nil @lk1_nil) (j @lk1_junk @lkS_int))) (j (j (j @lkS_bool @lkS_str) (j @lkS_agg @lkS_lst)) (j (j @lkS_ep @lkS_ptr) (j @lkS_ap @lkS_vw_vw)))))) (j (j (j (j (j @lkS_vw_nil (j @lkS_sv_sv @lkS_fn)) (j (j @lkS_nil_vw @lkS_nil_nil) (j @lkC0_int @lkC0_bool))) (j (j (j @lkC0_str @lkC0_lst) (j @lkC0_ptr @lkC0_vw_vw)) (j (j @lkC0_vw_nil @lkC0_nil_vw) (j @lkC0_nil_nil @lkC0_junk)))) (j (j (j (j @unfr0_int @unfr0_bool) (j @unfr0_str @unfr1_int)) (j (j @unfr1_fr @unfr2_str) (j @unfr2_agg @unfr2_tup))) (j (j (j @unfr2_fr @unfr2_fp) (j @unfr2_nil @frs0_int)) (j (j @frs0_bool @frs0_str) (j @frs0_lst @frs1_int))))) (j (j (j (j (j @frs1_fr @frs2_str) (j @frs2_agg @frs2_tup)) (j (j @frs2_fr @frs2_fp) (j @frs2_nil @wfX0_int))) (j (j (j @wfX0_bool @wfX0_str) (j @wfX0_lst @wfX1_int)) (j (j @wfX1_str @wfX1_agg) (j @wfX1_fr @wfX1_fp)))) (j (j (j (j @wfX1_nil @wfX2_str) (j @wfX2_agg @wfX2_tup)) (j (j @wfX2_fr @wfX2_fp) (j @wfX2_nil @flatX0_int))) (j (j (j @flatX0_bool @flatX0_str) (j @flatX1_int @flatX1_fr)) (j (j @flatX2_str @flatX2_agg) (j @flatX2_tup @flatX2_fr))))))) (j (j (j (j (j (j @flatX2_fp (j @flatX2_nil @flat0_int)) (j (j @flat0_bool @flat0_lst) (j @flat1_int @flat1_bool))) (j (j (j @flat1_agg @flat1_lst) (j @flat2_int @flat2_bool)) (j (j @flat2_agg @flat2_tup) (j @flat2_lst @flat2_nil)))) (j (j (j (j @flatC_int @lendA_int) (j @lendA_bool @lendA_str)) (j (j @lendA_lst @lendA_nil) (j @lend1_int @lend1_bool))) (j (j (j @lend1_str @lend1_agg) (j @lend1_lst @lend1_sv)) (j (j @lend1_nil @vws0_int) (j @vws0_bool @vws0_str))))) (j (j (j (j @vws0_ptr (j @vws0_vw @vws0_nil)) (j (j @vws1_int @vws1_bool) (j @vws1_agg @vws1_lst))) (j (j (j @vws1_ptr @vws1_ap) (j @vws1_vw @vws1_nil)) (j (j @vwsT_ptr @vwsT_bp) (j @leX0_int @leX1_int)))) (j (j (j (j @pq0_int @pq1_int) (j @leX0_bool @pq0_bool)) (j (j @leX0_str @leX1_str) (j @pq0_str @pq1_str))) (j (j (j @leX0_lst @pq0_lst) (j @leX1_nil @pq1_nil)) (j (j @leX1_fr_vw @leX1_fr_nil) (j @leX1_fp @pq1_fr_vw)))))) (j (j (j (j (j @pq1_fr_nil (j @pq1_fp @leX1_agg)) (j (j @pq1_agg @evXV_some) (j @evX_f @evX_t))) (j (j (j @evXA_some @evXC_cells) (j @evXB_some @evXN_some)) (j (j @evXM_some @evXP_eq) (j @evXS_eq @setB_eq)))) (j (j (j (j @backX_nil @backX_t) (j @putX_eq @putY_eq)) (j (j @addF_nil @addF_cons) (j @frsL_nil @frsL_cons))) (j (j (j @frsV_nil @frsV_cons) (j @flatL_nil @flatL_buf)) (j (j @flatL_cells @nodupN_nil) (j @nodupN_cons @idsOK_eq))))) (j (j (j (j (j @lendC_nil @lendC_cons) (j @lends_nil @lends_cons)) (j (j @consL_some' @aggL_some) (j @lendB_buf @lendP_buf))) (j (j (j @lendQ_t @call_pure) (j @callN_some @callC_cells)) (j (j @callB_some @callD_t) (j @callP_some @clQ_t)))) (j (j (j (j @callS_some @clU_t) (j @backOK_nil @backOK_cons)) (j (j @frzL_nil @frzL_cons) (j @frzQ_buf @frzP_t))) (j (j (j @frzSl_at @frzM_at) (j @frzO_none @frzO_some)) (j (j @frzB_cells @frzB_buf) (j @renSl_at @renM_at)))))))))) (j (j (j (j (j (j (j (j (j @renO_cells (j @renO_buf @applyL_nil)) (j (j @applyL_frz @applyL_ren) (j @applyL_nls @applyL_nlc))) (j (j (j @renQ_buf @renP_t) (j @nlV_nil @nlP_t)) (j (j @nlC1_cells @nlC2_nil) (j @nlR_t @renK_t)))) (j (j (j (j @renK_f @nlK_buf) (j @nlKc_buf @lkAs_nil)) (j (j @lkAs_cons @lkVs_nil) (j @lkVs_cons @lkC_nil))) (j (j (j @lkC_cons @lkB_cells) (j @lkB_buf @lkL_nil)) (j (j @lkL_cons @lkM_nil) (j @lkM_cons @SL_ge))))) (j (j (j (j @SL_ge1 (j @mvL_nil @mvL_cons)) (j (j @mv0_pp @mv0_int) (j @mv0_bool @mv0_str))) (j (j (j @mv0_agg @mv0_lst) (j @mv0_ep @mv0_vw)) (j (j @mv0_sv @mv0_ap) (j @mv0_fn @mv0_nil)))) (j (j (j (j @SL_ge0 @leL_nil) (j @leL_cons @leM_nil)) (j (j @leM_cons @leB_cells) (j @leB_buf @lkR_one))) (j (j (j @lkR_two @lkT_f) (j @lkT_t @retOK_eq)) (j (j @retOK_f @retOK_t) (j @kRetX_r @retXG_eq)))))) (j (j (j (j (j @retX_eq (j @retX0_eq @resXO_some)) (j (j @wfRes_one @wfRes_two) (j @resX_one @resX_two))) (j (j (j @leXV_nil @leXV_cons) (j @leXs_nil @leXs_cons)) (j (j @pqR_one @pqR_two) (j @pqV_nil @pqV_cons)))) (j (j (j (j @pqL_nil @pqL_cons) (j @pqK_nil @pqK_some)) (j (j @pqK_none @leFB_buf) (j @leFC_cells @resXT_f))) (j (j (j @resXT_t @condK_nb) (j @vwsL_nil @vwsL_cons)) (j (j @vwsG_nil @vwsG_cons) (j @goF_eq @eo_store))))) (j (j (j (j (j @eo_bslice @eo_bsliceO) (j @eo_call @evCl_mk)) (j (j @evCl_ext @eo_call_g) (j @eo_mov @eo_pick))) (j (j (j @eo_arith @eo_cmp) (j @eo_not @eo_neg)) (j (j @eo_conv @eo_len) (j @eo_minmax @eo_faddr)))) (j (j (j (j @eo_iaddrS @eo_iaddrA) (j @eo_load @eo_alloc)) (j (j @eo_box @eo_build) (j @eo_extract @eo_nilchk))) (j (j (j @eo_append @eo_slice) (j @eo_mkslice @eo_idxS)) (j (j @eo_idxV @eo_callv) (j @eo_eqnil @eo_shr))))))) (j (j (j (j (j (j @ev_bsliceO (j @ev_eqnil @ev_shl)) (j (j @ev_shr @ev_idxS) (j @ev_idxV @ev_slice))) (j (j (j @ev_mkslice @ev_callv) (j @blO2_some @idxVR_c)) (j (j @ivR_some @clV_some) (j @clW_t @nil_nil)))) (j (j (j (j @nil_lst @shl_int) (j @shr_int @shQ_t)) (j (j @idxS_str @boundA_none) (j @boundA_some @optS_some))) (j (j (j @sliceO_some @slice_lst) (j @slL_some @slice_vw)) (j (j @slB_buf @slV_some) (j @loOf_none @loOf_int))))) (j (j (j (j @hiOf_none (j @hiOf_int @mk_int)) (j (j @wfX1_int @wfX1_str) (j @wfX1_agg @wfX1_fr))) (j (j (j @wfX1_fp @wfX1_nil) (j @wfX2_str @wfX2_agg)) (j (j @wfX2_tup @wfX2_fr) (j @wfX2_fp @wfX2_nil)))) (j (j (j (j @flatX0_int @flatX0_bool) (j @flatX0_str @flatX1_int)) (j (j @flatX1_fr @flatX2_str) (j @flatX2_agg @flatX2_tup))) (j (j (j @flatX2_fr @flatX2_fp) (j @flatX2_nil @flat0_int)) (j (j @flat0_bool @flat0_lst) (j @flat1_int @flat1_bool)))))) (j (j (j (j (j @flat1_agg (j @flat1_lst @flat2_int)) (j (j @flat2_bool @flat2_agg) (j @flat2_tup @flat2_lst))) (j (j (j @flat2_nil @flatC_int) (j @lendA_int @lendA_bool)) (j (j @lendA_str @lendA_lst) (j @lendA_nil @lend1_int)))) (j (j (j (j @lend1_bool @lend1_str) (j @lend1_agg @lend1_lst)) (j (j @lend1_sv @lend1_nil) (j @vws0_int @vws0_bool))) (j (j (j @vws0_str @vws0_ptr) (j @vws0_vw @vws0_nil)) (j (j @vws1_int @vws1_bool) (j @vws1_agg @vws1_lst))))) (j (j (j (j (j @vws1_ptr @vws1_ap) (j @vws1_vw @vws1_nil)) (j (j @vwsT_ptr @vwsT_bp) (j @leX0_int @leX1_int))) (j (j (j @pq0_int @pq1_int) (j @leX0_bool @pq0_bool)) (j (j @leX0_str @leX1_str) (j @pq0_str @pq1_str)))) (j (j (j (j @leX0_lst @pq0_lst) (j @leX1_nil @pq1_nil)) (j (j @leX1_fr_vw @leX1_fr_nil) (j @leX1_fp @pq1_fr_vw))) (j (j (j @pq1_fr_nil @pq1_fp) (j @leX1_agg @pq1_agg)) (j (j @evXV_some @evX_f) (j @evX_t @evXA_some)))))))) (j (j (j (j (j (j (j @evXC_cells (j @evXB_some @evXN_some)) (j (j @evXM_some @evXP_eq) (j @evXS_eq @setB_eq))) (j (j (j @backX_nil @backX_t) (j @putX_eq @putY_eq)) (j (j @addF_nil @addF_cons) (j @frsL_nil @frsL_cons)))) (j (j (j (j @frsV_nil @frsV_cons) (j @flatL_nil @flatL_buf)) (j (j @flatL_cells @nodupN_nil) (j @nodupN_cons @idsOK_eq))) (j (j (j @lendC_nil @lendC_cons) (j @lends_nil @lends_cons)) (j (j @consL_some' @aggL_some) (j @lendB_buf @lendP_buf))))) (j (j (j (j @lendQ_t (j @call_pure @callN_some)) (j (j @callC_cells @callB_some) (j @callD_t @callP_some))) (j (j (j @clQ_t @callS_some) (j @clU_t @backOK_nil)) (j (j @backOK_cons @frzL_nil) (j @frzL_cons @frzQ_buf)))) (j (j (j (j @frzP_t @frzSl_at) (j @frzM_at @frzO_none)) (j (j @frzO_some @frzB_cells) (j @frzB_buf @renSl_at))) (j (j (j @renM_at @renO_cells) (j @renO_buf @applyL_nil)) (j (j @applyL_frz @applyL_ren) (j @applyL_nls @applyL_nlc)))))) (j (j (j (j (j @renQ_buf (j @renP_t @nlV_nil)) (j (j @nlP_t @nlC1_cells) (j @nlC2_nil @nlR_t))) (j (j (j @renK_t @renK_f) (j @nlK_buf @nlKc_buf)) (j (j @lkAs_nil @lkAs_cons) (j @lkVs_nil @lkVs_cons)))) (j (j (j (j @lkC_nil @lkC_cons) (j @lkB_cells @lkB_buf)) (j (j @lkL_nil @lkL_cons) (j @lkM_nil @lkM_cons))) (j (j (j @SL_ge @SL_ge1) (j @mvL_nil @mvL_cons)) (j (j @mv0_pp @mv0_int) (j @mv0_bool @mv0_str))))) (j (j (j (j (j @mv0_agg @mv0_lst) (j @mv0_ep @mv0_vw)) (j (j @mv0_sv @mv0_ap) (j @mv0_fn @mv0_nil))) (j (j (j @SL_ge0 @leL_nil) (j @leL_cons @leM_nil)) (j (j @leM_cons @leB_cells) (j @leB_buf @lkR_one)))) (j (j (j (j @lkR_two @lkT_f) (j @lkT_t @retOK_eq)) (j (j @retOK_f @retOK_t) (j @kRetX_r @retXG_eq))) (j (j (j @retX_eq @retX0_eq) (j @resXO_some @wfRes_one)) (j (j @wfRes_two @resX_one) (j @resX_two @leXV_nil))))))) (j (j (j (j (j (j @leXV_cons (j @leXs_nil @leXs_cons)) (j (j @pqR_one @pqR_two) (j @pqV_nil @pqV_cons))) (j (j (j @pqL_nil @pqL_cons) (j @pqK_nil @pqK_some)) (j (j @pqK_none @leFB_buf) (j @leFC_cells @resXT_f)))) (j (j (j (j @resXT_t @condK_nb) (j @vwsL_nil @vwsL_cons)) (j (j @vwsG_nil @vwsG_cons) (j @goF_eq @eo_store))) (j (j (j @eo_bslice @eo_bsliceO) (j @eo_call @evCl_mk)) (j (j @evCl_ext @eo_call_g) (j @eo_mov @eo_pick))))) (j (j (j (j @eo_arith (j @eo_cmp @eo_not)) (j (j @eo_neg @eo_conv) (j @eo_len @eo_minmax))) (j (j (j @eo_faddr @eo_iaddrS) (j @eo_iaddrA @eo_load)) (j (j @eo_alloc @eo_box) (j @eo_build @eo_extract)))) (j (j (j (j @eo_nilchk @eo_append) (j @eo_slice @eo_mkslice)) (j (j @eo_idxS @eo_idxV) (j @eo_callv @eo_eqnil))) (j (j (j @eo_shr @ev_bsliceO) (j @ev_eqnil @ev_shl)) (j (j @ev_shr @ev_idxS) (j @ev_idxV @ev_slice)))))) (j (j (j (j (j @ev_mkslice (j @ev_callv @blO2_some)) (j (j @idxVR_c @ivR_some) (j @clV_some @clW_t))) (j (j (j @nil_nil @nil_lst) (j @shl_int @shr_int)) (j (j @shQ_t @idxS_str) (j @boundA_none @boundA_some)))) (j (j (j (j @optS_some @sliceO_some) (j @slice_lst @slL_some)) (j (j @slice_vw @slB_buf) (j @slV_some @loOf_none))) (j (j (j @loOf_int @hiOf_none) (j @hiOf_int @mk_int)) (j (j @iaddrS_lst @iaddrS_vw) (j @iasV_buf @iasW_t))))) (j (j (j (j (j @iaddrS_sv @iasP_buf) (j @iasX_t @faddr_bp)) (j (j @load_bp @ldP_buf) (j @ldQ_t @store_bp))) (j (j (j @stP_buf @stQ_t) (j @ysOf_sv @ysP_buf)) (j (j @ysQ_t @cells_sv) (j @needD_shl @needD_shr)))) (j (j (j (j @needD_callv @pslots_sv) (j @pslots_bp @bits_i64)) (j (j @bits_u8 @bits_u16) (j @bits_u32 @bits_u64))) (j (j (j @gv_gd @liveB_cells) (j @liveB_buf @killB_dead)) (j (j @deadL_nil @deadL_dead) (j @put_nd @needD_appD))))))))) (j (j (j (j (j (j (j (j @ev_appD (j @appDR_nil @appDR_vw)) (j (j @appDV_buf @appDK_some) (j @evC_ghost @evOpsk_at))) (j (j (j @kN_at @ghV_ptr) (j @ghV_vw @fzB_cells)) (j (j @fzC_t @pslots_ap) (j @killB_ms @killB_clo)))) (j (j (j (j @frzB_clo @liveB_clo) (j @leB_clo @lkB_clo)) (j (j @appQR_nil @appQR_vw) (j @appC_buf @sliceQ_lst))) (j (j (j @sliceQ_vw @slC_buf) (j @eo_mkmap @eo_mkclo)) (j (j @needD_mkclo @ev_mkmap) (j @ev_mkclo @cloR_ep))))) (j (j (j (j @clV_ap (j @cloV_clo @cloW_t)) (j (j @tchR_some @clE_some) (j @callE_pure @callE_state))) (j (j (j @callE_own @ownW_some) (j @ownK_some @backF_nil)) (j (j @len_sv @ev_copy) (j @cpR_vw @cpB_buf)))) (j (j (j (j @cpK_t @eo_copy) (j @lendX_int @lendO0_int)) (j (j @lendX_bool @lendO0_bool) (j @lendX_str @lendX_agg))) (j (j (j @lendX_lst @lendX_ep) (j @lendX_ptr @lendO0_ptr)) (j (j @lendX_vw @lendO0_vw) (j @lendX_fn @lendX_nil)))))) (j (j (j (j (j @lendO0_nil (j @lendO0_junk @lendsX_nil)) (j (j @lendsX_cons @lendOL_nil) (j @lendOL_cons @lendOb_cells))) (j (j (j @lendOE_some @un1_nilchk_ep) (j @ev_pv @pvO_some')) (j (j @needD_pv @eo_pv) (j @pv_shl @pv_shr)))) (j (j (j (j @pv_sadd @pv_ssl_tt) (j @pv_nilp_ptr @pv_glob)) (j (j @pv_toArr @toArrK_1) (j @toArrL_3 @evCl_gr))) (j (j (j @frzF_t @frzF_f) (j @argF_nil @argF_cons)) (j (j @evGX_eq @evGV_some) (j @evGC_eq @evGE_eq))))) (j (j (j (j (j @evGF_some @evGN_some) (j @evGO_eq @evGP_eq)) (j (j @ptr0_int @row0_int) (j @mapA0_int @mapA1_int))) (j (j (j @mapA2_int @ptr0_bool) (j @row0_bool @mapA0_bool)) (j (j @mapA1_bool @mapA2_bool) (j @ptr0_agg @row0_agg)))) (j (j (j (j @mapA1_agg @mapA2_tup) (j @ptr0_lst @row0_lst)) (j (j @mapA1_lst @ptr0_ptr) (j @row0_ptr @mapA0_ptr))) (j (j (j @mapA1_ptr @ptr0_ap) (j @row0_ap @mapA1_ap)) (j (j @mapA2_ap @ptr0_vw) (j @row0_vw @mapA0_vw))))))) (j (j (j (j (j (j @mapA1_vw (j @mapA2_vw @ptr0_nil)) (j (j @row0_nil @mapA0_nil) (j @mapA1_nil @mapA0_junk))) (j (j (j @mapP_some @mapV_some) (j @mapQ_some @mapB_cells)) (j (j @mapB_buf @mapB_clo) (j @ptrL_nil @ptrL_cons)))) (j (j (j (j @rowL_nil @rowL_cons) (j @ptrB_cells @rowB_cells)) (j (j @gatO_nil @gatO_cons) (j @gatK_f @gatR_nil))) (j (j (j @gatR_cons @zipN_nil) (j @zipN_cons @zipR_nil)) (j (j @zipR_cons @rowN_t) (j @rowN_f @lookN_nil))))) (j (j (j (j @lookN_cons (j @okIn_cells @okIn_buf)) (j (j @okIn_clo @inC_some) (j @inK_t @inpL_nil))) (j (j (j @inpL_cons @bidO_some) (j @bidO_none @unz_nil)) (j (j @unz_cons @unzK_t) (j @unzK_f @bidL_nil)))) (j (j (j (j @bidL_cons @okN_nil) (j @okN_cons @drpL_nil)) (j (j @drpL_cons @newK_some) (j @newK_none @newL_nil))) (j (j (j @newL_cons @putL_nil) (j @putL_cons @putG_eq)) (j (j @liveG_cells @liveG_buf) (j @liveG_clo @kRetG_r)))))) (j (j (j (j (j @kRetG_n (j @retGG_eq @retG_eq)) (j (j @retG0_eq @evC_bar) (j @kBar1_eq @kBar2_eq))) (j (j (j @cpR_sv @cpS_buf) (j @cpSK_t @lkR_zero)) (j (j @resV_zero @Qx0) (j @getE_i64 @getE_u8)))) (j (j (j (j @u8s_len @iaddrS_lst) (j @iaddrS_vw @iasV_buf)) (j (j @iasW_t @iaddrS_sv) (j @iasP_buf @iasX_t))) (j (j (j @faddr_bp @load_bp) (j @ldP_buf @ldQ_t)) (j (j @store_bp @stP_buf) (j @stQ_t @ysOf_sv))))) (j (j (j (j (j @ysP_buf @ysQ_t) (j @cells_sv @needD_shl)) (j (j @needD_shr @needD_callv) (j @pslots_sv @pslots_bp))) (j (j (j @bits_i64 @bits_u8) (j @bits_u16 @bits_u32)) (j (j @bits_u64 @gv_gd) (j @liveB_cells @liveB_buf)))) (j (j (j (j @killB_dead @deadL_nil) (j @deadL_dead @put_nd)) (j (j @needD_appD @ev_appD) (j @appDR_nil @appDR_vw))) (j (j (j @appDV_buf @appDK_some) (j @evC_ghost @evOpsk_at)) (j (j @kN_at @ghV_ptr) (j @ghV_vw @fzB_cells)))))))) (j (j (j (j (j (j (j @fzC_t (j @pslots_ap @killB_ms)) (j (j @killB_clo @frzB_clo) (j @liveB_clo @leB_clo))) (j (j (j @lkB_clo @appQR_nil) (j @appQR_vw @appC_buf)) (j (j @sliceQ_lst @sliceQ_vw) (j @slC_buf @eo_mkmap)))) (j (j (j (j @eo_mkclo @needD_mkclo) (j @ev_mkmap @ev_mkclo)) (j (j @cloR_ep @clV_ap) (j @cloV_clo @cloW_t))) (j (j (j @tchR_some @clE_some) (j @callE_pure @callE_state)) (j (j @callE_own @ownW_some) (j @ownK_some @backF_nil))))) (j (j (j (j @len_sv (j @ev_copy @cpR_vw)) (j (j @cpB_buf @cpK_t) (j @eo_copy @lendX_int))) (j (j (j @lendO0_int @lendX_bool) (j @lendO0_bool @lendX_str)) (j (j @lendX_agg @lendX_lst) (j @lendX_ep @lendX_ptr)))) (j (j (j (j @lendO0_ptr @lendX_vw) (j @lendO0_vw @lendX_fn)) (j (j @lendX_nil @lendO0_nil) (j @lendO0_junk @lendsX_nil))) (j (j (j @lendsX_cons @lendOL_nil) (j @lendOL_cons @lendOb_cells)) (j (j @lendOE_some @un1_nilchk_ep) (j @ev_pv @pvO_some')))))) (j (j (j (j (j @needD_pv (j @eo_pv @pv_shl)) (j (j @pv_shr @pv_sadd) (j @pv_ssl_tt @pv_nilp_ptr))) (j (j (j @pv_glob @pv_toArr) (j @toArrK_1 @toArrL_3)) (j (j @evCl_gr @frzF_t) (j @frzF_f @argF_nil)))) (j (j (j (j @argF_cons @evGX_eq) (j @evGV_some @evGC_eq)) (j (j @evGE_eq @evGF_some) (j @evGN_some @evGO_eq))) (j (j (j @evGP_eq @ptr0_int) (j @row0_int @mapA0_int)) (j (j @mapA1_int @mapA2_int) (j @ptr0_bool @row0_bool))))) (j (j (j (j (j @mapA0_bool @mapA1_bool) (j @mapA2_bool @ptr0_agg)) (j (j @row0_agg @mapA1_agg) (j @mapA2_tup @ptr0_lst))) (j (j (j @row0_lst @mapA1_lst) (j @ptr0_ptr @row0_ptr)) (j (j @mapA0_ptr @mapA1_ptr) (j @ptr0_ap @row0_ap)))) (j (j (j (j @mapA1_ap @mapA2_ap) (j @ptr0_vw @row0_vw)) (j (j @mapA0_vw @mapA1_vw) (j @mapA2_vw @ptr0_nil))) (j (j (j @row0_nil @mapA0_nil) (j @mapA1_nil @mapA0_junk)) (j (j @mapP_some @mapV_some) (j @mapQ_some @mapB_cells))))))) (j (j (j (j (j (j @mapB_buf (j @mapB_clo @ptrL_nil)) (j (j @ptrL_cons @rowL_nil) (j @rowL_cons @ptrB_cells))) (j (j (j @rowB_cells @gatO_nil) (j @gatO_cons @gatK_f)) (j (j @gatR_nil @gatR_cons) (j @zipN_nil @zipN_cons)))) (j (j (j (j @zipR_nil @zipR_cons) (j @rowN_t @rowN_f)) (j (j @lookN_nil @lookN_cons) (j @okIn_cells @okIn_buf))) (j (j (j @okIn_clo @inC_some) (j @inK_t @inpL_nil)) (j (j @inpL_cons @bidO_some) (j @bidO_none @unz_nil))))) (j (j (j (j @unz_cons (j @unzK_t @unzK_f)) (j (j @bidL_nil @bidL_cons) (j @okN_nil @okN_cons))) (j (j (j @drpL_nil @drpL_cons) (j @newK_some @newK_none)) (j (j @newL_nil @newL_cons) (j @putL_nil @putL_cons)))) (j (j (j (j @putG_eq @liveG_cells) (j @liveG_buf @liveG_clo)) (j (j @kRetG_r @kRetG_n) (j @retGG_eq @retG_eq))) (j (j (j @retG0_eq @evC_bar) (j @kBar1_eq @kBar2_eq)) (j (j @cpR_sv @cpS_buf) (j @cpSK_t @lkR_zero)))))) (j (j (j (j (j @resV_zero (j @Qx0 @getE_i64)) (j (j @getE_u8 @u8s_len) (j @Option.getD_some.{0} @Option.getD_none.{0}))) (j (j (j @List.length_cons.{0} @List.length_nil.{0}) (j @List.getElem?_cons_succ.{0} @List.getElem?_cons_zero.{0})) (j (j @List.drop_zero.{0} @List.drop_succ_cons.{0}) (j @List.take_succ_cons.{0} @List.take_zero.{0})))) (j (j (j (j @List.map_cons.{0,0} @List.map_nil.{0,0}) (j @List.all_cons.{0} @List.all_nil.{0})) (j (j @List.contains_cons.{0} @List.contains_nil.{0}) (j @List.nil_append.{0} @List.cons_append.{0}))) (j (j (j @List.set_cons_zero.{0} @List.set_cons_succ.{0}) (j @List.replicate_succ.{0} @List.replicate_zero.{0})) (j (j @List.getD_cons_zero.{0} @List.getD_cons_succ.{0}) (j @beq_self_eq_true.{0} @Bool.and_self))))) (j (j (j (j (j @Bool.or_false @Bool.true_or) (j @Bool.or_true @Bool.and_true)) (j (j @Bool.true_and @Bool.cond_true_left) (j @Bool.cond_false_right @and_true))) (j (j (j @true_and @true_imp_iff) (j @and_self @imp_self)) (j (j @implies_true.{0} @Nat.mul_one) (j @decide_true @decide_false)))) (j (j (j (j @if_true.{0} @if_false.{0}) (j @Nat.zero_mul @Nat.add_zero)) (j (j @Nat.zero_add @Int.toNat_natCast) (j @Bool.not_true @Bool.cond_self.{0}))) (j (j (j @Bool.not_false @Bool.false_eq_true) (j @Bool.true_eq_false @false_imp_iff)) (j (j @List.length_map.{0,0} @implies_true.{1}) (j @if_true.{1} @if_false.{1})))))))))))
end Go.Ev
