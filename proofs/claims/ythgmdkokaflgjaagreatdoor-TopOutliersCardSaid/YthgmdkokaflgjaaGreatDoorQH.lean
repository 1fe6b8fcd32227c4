/- A part of the proof; no condition. -/
import Derived.Test.YthgmdkokaflgjaaGreatDoorQG
set_option linter.unusedSimpArgs false
set_option linter.unusedVariables false
set_option linter.unusedSectionVars false
namespace Go.Proofs.YthgmdkokaflgjaaGreatDoor
open Go Go.RowKit Go.Ev
set_option maxRecDepth 20000
set_option maxHeartbeats 4000000
variable {Phi:Nat→Option Ctr}
def keeps (l:List Rc)(t:Int):Prop:=∀ r∈l,t≤r.q
def CIr:Ctr:= .gr Unit [] false λbs xs=>match xs with
 | [.vw 32 0 0 0,.ap 33 0 0 0]=>(match bs with
   | [(32,.buf 148 zz es),(33,.clo 117 [.int .i64 _] [[.int .i64 t]] 0 0)]=>some (bs= [(32,.buf 148 [.int .i64 0,.int .u16 0,.int .u32 0,.int .u16 0,.int .u8 0,.int .u8 0,.int .u8 0,.bool false,.int .u8 0,.int .u8 0,.int .u8 0] (rcs (decR es))),(33,.clo 117 [.int .i64 t] [[.int .i64 t]] 0 0)]∧es.length≤1000000∧keeps (decR es) t,λ_=>(True,.int .i64 (-1),[(32,.buf 148 [.int .i64 0,.int .u16 0,.int .u32 0,.int .u16 0,.int .u8 0,.int .u8 0,.int .u8 0,.bool false,.int .u8 0,.int .u8 0,.int .u8 0] (rcs (decR es))),(33,.clo 117 [.int .i64 t] [[.int .i64 t]] 0 0)]))
   | _=>none)
 | _=>none
def CDf:Ctr:= .gr Unit [] false λbs xs=>match xs with
 | [.vw 32 0 0 0,.ap 33 0 0 0]=>(match bs with
   | [(32,.buf 148 zz es),(33,.clo 117 [.int .i64 _] [[.int .i64 t]] 0 0)]=>some (bs= [(32,.buf 148 [.int .i64 0,.int .u16 0,.int .u32 0,.int .u16 0,.int .u8 0,.int .u8 0,.int .u8 0,.bool false,.int .u8 0,.int .u8 0,.int .u8 0] (rcs (decR es))),(33,.clo 117 [.int .i64 t] [[.int .i64 t]] 0 0)]∧es.length≤1000000∧keeps (decR es) t,λ_=>(True,.vw 32 0 0 0,[(32,.buf 148 [.int .i64 0,.int .u16 0,.int .u32 0,.int .u16 0,.int .u8 0,.int .u8 0,.int .u8 0,.bool false,.int .u8 0,.int .u8 0,.int .u8 0] (rcs (decR es)))]))
   | _=>none)
 | _=>none
theorem Dv.prL_dn:∀ (l:List Int)(d:Dv)(k:Nat),d.dn=false→((d.prL k l).1=0∧(d.prL k l).2.dn=false)∨((d.prL k l).1=10∧(d.prL k l).2.dn=true):=by
 intro l
 induction l with
 | nil=>intro d k h; exact .inl ⟨rfl,h⟩
 | cons x l ih=>
   intro d k h
   rcases hs:d.step.dn with _ | _
   · rw [Dv.prL_f hs]
     exact ih _ _ hs
   · rw [Dv.prL_t hs]
     exact .inr ⟨rfl,hs⟩
theorem Dv.sd_self {d:Dv} {b:Bool}(h:d.dn=b):d.sd b=d:=by subst h; rfl
theorem Dv.prog_dn {d:Dv} {a:Int} {l:List Int}(h:d.dn=false)(hw:d.wth a l.length=true):((d.prog a l).1=0∧(d.prog a l).2.dn=false)∨((d.prog a l).1=10∧(d.prog a l).2.dn=true):=by
 rw [Dv.prog,if_neg (by rw [h]; decide),if_pos hw]
 exact Dv.prL_dn _ _ _ h
theorem Dv.erase_dn {d:Dv} {s:Int}(h:d.dn=false)(hs:0≤s∧s < d.wr.length):((d.erase s).1=0∧(d.erase s).2.dn=false)∨((d.erase s).1=10∧(d.erase s).2.dn=true):=by
 rw [Dv.erase,if_neg (by rw [h]; decide),if_neg (by omega)]
 cases hd:(d.er1 s).dn
 · left; exact ⟨rfl,rfl⟩
 · right; exact ⟨rfl,rfl⟩
def eno (b:Bool):Int:=if b then 10 else 0
def Dv.ok (d:Dv):Prop:=d.by'.length≤1000000∧d.wr.length≤16∧0 < d.sz∧d.sz≤1024∧(d.by'.length:Int) =d.wr.length * d.sz
def CProgB:Ctr:= .gr Bool [] true λbs xs=>match xs with
 | [.ptr 0 0,.int .i64 a,.lst z es]=>some (bs=((Dv.de bs).sd false).gr∧(z= [.int .u8 0]∧es=u8s (decU es))∧es.length≤1000000∧(Dv.de bs).by'.length≤1000000∧(Dv.de bs).wth a (decU es).length=true,λb=>(((Dv.de bs).prog a (decU es)).1=eno b,.int .i64 (eno b),(((Dv.de bs).prog a (decU es)).2.sd b).gr))
 | _=>none
def CErB:Ctr:= .gr Bool [] true λbs xs=>match xs with
 | [.ptr 0 0,.int .i64 s]=>some (bs=((Dv.de bs).sd false).gr∧(Dv.de bs).ok∧0≤s∧s < (Dv.de bs).wr.length,λb=>(((Dv.de bs).erase s).1=eno b,.int .i64 (eno b),(((Dv.de bs).erase s).2.sd b).gr))
 | _=>none
def CReadB:Ctr:= .gr Unit [] true λbs xs=>match xs with
 | [.ptr 0 0,.int .i64 a,.int .i64 n]=>some (bs=((Dv.de bs).sd false).gr∧(Dv.de bs).by'.length≤1000000∧(Dv.de bs).wth a n=true,λ_=>(True,.tup [.vw 64 0 0 0,.int .i64 0],(64,.buf 5 [.int .u8 0] (u8s ((Dv.de bs).rdB a n)))::((Dv.de bs).sd false).gr))
 | _=>none
theorem eno_t:eno true=10:=rfl
theorem eno_f:eno false=0:=rfl
structure K127a (l:List Rc)(t:Int) where
 i:Nat
 hi:i≤l.length
def S127a (l:List Rc)(t:Int)(p:K127a l t):SL:=⟨[(0,.vw 32 0 0 0),(1,.ap 33 0 0 0),(7,Ii l.length),(8,Ii p.i)],[(32,.buf 148 zA (rcs l)),(33,.clo 117 [Ii t] [[Ii t]] 0 0)]⟩
abbrev L127a (l:List Rc)(t:Int):LI:=⟨K127a l t,S127a l t,λp=>l.length - p.i,λp q=>True⟩
theorem L127aS (l:List Rc)(t:Int):(L127a l t).S=S127a l t:=rfl
theorem L127aR (l:List Rc)(t:Int)(p q:K127a l t):(L127a l t).R p q=(True):=rfl
def I127 (l:List Rc)(t:Int):Nat→LI:=λn=>L127a l t
theorem I127_0 (l:List Rc)(t:Int):I127 l t 0=L127a l t:=rfl
theorem walk127r (P117:Phi 117=some CLt)(l:List Rc)(t:Int)(hl:l.length≤1000000)(hk:keeps l t):evC Phi (I127 l t) rc127 ⟨initS [.vw 32 0 0 0,.ap 33 0 0 0],lookM [(32,.buf 148 zA (rcs l)),(33,.clo 117 [.int .i64 t] [[.int .i64 t]] 0 0)]⟩ (kRetG rv127 (λ(_ :Unit)=>(True,.int .i64 (-1),[(32,.buf 148 zA (rcs l)),(33,.clo 117 [.int .i64 t] [[.int .i64 t]] 0 0)]))):=by
 simp (maxSteps:=2000000) only [rc127,rv127,pk,un,Nat.reduceEqDiff,↓reduceIte,rcs_len,I127_0,L127aS,S127a,L127aR,Nat.reduceAdd,getE_rc,Rc.cs,Ev.cs,Nat.reduceLeDiff,fs_117,P117,CLt,exists_const]
 intro _
 refine ⟨⟨0,Nat.zero_le _⟩,rfl,?_⟩
 rintro ⟨i,hi⟩ hc
 dsimp only at hc ⊢
 have hc:=of_decide_eq_true hc
 have hi':i < l.length:=by omega
 refine ⟨⟨by omega,hc⟩,λ_=>⟨hi',λh=>?_,λ_=>⟨⟨i+1,by omega⟩,congrArg _ (wr_succ i (by omega)),by dsimp only; omega⟩⟩⟩
 have h:=of_decide_eq_true h
 have:=hk (l.getD i rc0') (by rw [List.getD_eq_getElem?_getD,List.getElem?_eq_getElem hi']; exact List.getElem_mem hi')
 omega
theorem walk116r (P127:Phi 127=some CIr)(P117:Phi 117=some CLt)(l:List Rc)(t:Int)(hl:l.length≤1000000)(hk:keeps l t):evC Phi (noI) rc116 ⟨initS [.vw 32 0 0 0,.ap 33 0 0 0],lookM [(32,.buf 148 zA (rcs l)),(33,.clo 117 [.int .i64 t] [[.int .i64 t]] 0 0)]⟩ (kRetG rv116 (λ(_ :Unit)=>(True,.vw 32 0 0 0,[(32,.buf 148 zA (rcs l))]))):=by
 simp (maxSteps:=2000000) only [rc116,rv116,pk,un,Nat.reduceEqDiff,↓reduceIte,P127,CIr,Nat.reduceAdd,Nat.reduceLT,Nat.reduceLeDiff,Nat.reduceBEq,decR_rcs,rcs_len,Option.isSome_some,exists_const]
 exact ⟨hl,hk⟩
theorem walk111 (b:Int)(hb:b=128∨b=4096):evC Phi (noI) rc111 ⟨initS [.int .u64 1,.int .u64 b],initM false []⟩ (kRet rv111 (.tup [.int .u64 0,.int .u64 b]) false []):=by
 simp (maxSteps:=2000000) only [rc111,pk,un,rv111,Nat.reduceEqDiff,↓reduceIte,Nat.reduceLeDiff]
 rcases hb with rfl | rfl<;>exact ⟨congrArg (AV.int .u64) (by decide),congrArg (AV.int .u64) (by decide)⟩
theorem walk85 (P111:Phi 111=some CMl)(b:Int)(hb:b=128∨b=4096):evC Phi (noI) rc85 ⟨initS [.int .u64 1,.int .u64 b],initM false []⟩ (kRet rv85 (.tup [.int .u64 0,.int .u64 b]) false []):=by
 simp (maxSteps:=2000000) only [rc85,pk,un,rv85,Nat.reduceEqDiff,↓reduceIte,P111,CMl]
 exact hb
structure K44a (c:Nat) where
 n:Nat
 h1:1≤n
 hn:n≤c
def S44a (c:Nat)(p:K44a c):SL:=⟨[(7,.vw 1984 0 0 0),(8,Ii p.n)],[(1984,.buf 5 [U 0] (u8s (List.replicate p.n 255 ++ List.replicate (c - p.n) 0)))]⟩
abbrev L44a (c:Nat):LI:=⟨K44a c,S44a c,λp=>c - p.n,λp q=>True⟩
theorem L44aS (c:Nat):(L44a c).S=S44a c:=rfl
theorem L44aR (c:Nat)(p q:K44a c):(L44a c).R p q=(True):=rfl
def I44 (c:Nat):Nat→LI:=λn=>L44a c
theorem I44_0 (c:Nat):I44 c 0=L44a c:=rfl
theorem walk44 (P85:Phi 85=some CMl)(c:Nat)(hb:(c:Int) =128∨(c:Int) =4096):evC Phi (I44 c) rc44 ⟨initS [.lst [.int .u8 0] (u8s [255]),.int .i64 c],initM false []⟩ (kRetX rv44 false (λ(_ :Unit)=>(True,.fr 0 5 [.int .u8 0] (u8s (List.replicate c 255)),[]))):=by
 simp (maxSteps:=2000000) only [rc44,pk,un,rv44,Nat.reduceEqDiff,↓reduceIte,pv_bad,goOp_none,Nat.reduceLeDiff,P85,CMl,Int.reduceLT,Nat.reduceMul,Nat.reduceAdd,Zx0,I44_0,L44aS,S44a,L44aR,Int.reduceLE,Int.reduceToNat,u8s_join,u8s_drop,Nat.reduceBEq,Nat.reduceLT,exists_const]
 have hc:c=128∨c=4096:=by omega
 obtain ⟨w1,w2⟩:IntKind.u64.wrap (c:Int) =c∧IntKind.i64.wrap (c:Int) =c:=by
  rcases hc with rfl | rfl<;>exact ⟨by decide,by decide⟩
 rw [w1,w2]
 have hA:∀ k,k≤c→(List.replicate k (255:Int) ++ List.replicate (c - k) 0).length=c:=by
  intro k hk
  rw [List.length_append,List.length_replicate,List.length_replicate]; omega
 refine ⟨λh=>absurd (of_decide_eq_true h) (by omega),λ_=>⟨⟨by decide,hb⟩,λh=>?_,λ_=>⟨⟨by omega,by omega,by omega,by omega⟩,⟨1,by omega,by omega⟩,⟨?_,?_⟩,?_⟩⟩⟩
 · simp only [Bool.false_or] at h
   exact absurd (of_decide_eq_true h) (by omega)
 · rw [List.length_replicate]
   exact congrArg (AV.int .i64) (by dsimp only; omega)
 · simp only [Int.toNat_natCast,List.length_replicate]
   rw [List.take_of_length_le (by simp; omega),List.drop_replicate]
   simp [u8s]
 · rintro ⟨n,h1,hn⟩
   dsimp only
   have e1:List.take n (List.replicate n (255:Int) ++ List.replicate (c - n) 0) =List.replicate n 255:=by simp
   rw [hA n hn,Nat.sub_zero,e1,List.length_replicate]
   intro _
   refine ⟨λh=>?_,λh=>?_⟩
   · have h:=of_decide_eq_true h
     have hlt:n < c:=by omega
     refine ⟨⟨by omega,by omega,by omega⟩,⟨by omega,by omega⟩,⟨hlt,Nat.le_refl _,by omega⟩,⟨n+min n (c - n),by omega,by omega⟩,⟨?_,?_⟩,by dsimp only; omega⟩
     · dsimp only
       rw [wr_in _ (by omega) (by omega)]
       congr 1
     · dsimp only
       congr 1
       rw [List.take_replicate,List.drop_append,List.length_replicate,List.drop_replicate,List.drop_replicate,show n - (n+min n (c - n)) =0 by omega,List.replicate_zero,List.nil_append,List.replicate_append_replicate]
       congr 2<;>omega
   · have h:=of_decide_eq_false h
     have e:n=c:=by omega
     subst e
     simp
theorem walk17 (P44:Phi 44=some CRp)(n sz:Int)(hb:(n=2∧sz=64)∨(n=4∧sz=1024)):evC Phi (noI) rc17 ⟨initS [.int .i64 n,.int .i64 sz],lookM []⟩ (kRetG rv17 (λ(_ :Unit)=>(True,.tup [.ptr 1920 0,.int .i64 0],[(1920,.cells ((newD n sz).cs 1664 1792)),(1664,.buf 5 [.int .u8 0] (u8s (newD n sz).by')),(1792,.buf 3 [.int .i64 0] (i64s (newD n sz).wr))]))):=by
 simp (maxSteps:=2000000) only [rc17,rv17,Dv.cs,pk,un,Nat.reduceEqDiff,↓reduceIte,exists_const,Nat.reduceMul,Nat.reduceAdd,Nat.reduceLT,P44,CRp,Nat.reduceLeDiff,Nat.reduceBEq]
 rcases hb with ⟨rfl,rfl⟩ | ⟨rfl,rfl⟩
 · exact ⟨λh=>absurd h (by decide),λ_=>⟨⟨rfl,by decide⟩,by decide,⟨rfl,rfl,rfl,rfl,rfl⟩,congrArg (λk=>u8s (List.replicate k 255)) (by decide:(IntKind.i64.wrap (2 * 64)).toNat=((2:Int) * 64).toNat),rfl⟩⟩
 · exact ⟨λh=>absurd h (by decide),λ_=>⟨⟨rfl,by decide⟩,by decide,⟨rfl,rfl,rfl,rfl,rfl⟩,congrArg (λk=>u8s (List.replicate k 255)) (by decide:(IntKind.i64.wrap (4 * 1024)).toNat=((4:Int) * 1024).toNat),rfl⟩⟩
theorem dec10 {i:Decidable ((10:Int) =0)}:@decide _ i=false:=by cases i with | isTrue h=>cases h | isFalse h=>rfl
theorem Dv.sd_mk (d:Dv)(b:Bool):Dv.mk d.sz d.by' d.wr d.st d.lf d.to b=d.sd b:=rfl
theorem Dv.sd_sd (d:Dv)(a b:Bool):(d.sd a).sd b=d.sd b:=rfl
theorem Dv.prL_len:∀ (l:List Int)(d:Dv)(k:Nat),(d.prL k l).2.by'.length=d.by'.length∧(d.prL k l).2.wr=d.wr∧(d.prL k l).2.sz=d.sz:=by
 intro l
 induction l with
 | nil=>intro d k; exact ⟨rfl,rfl,rfl⟩
 | cons x l ih=>
   intro d k
   rcases hs:d.step.dn with _ | _
   · rw [Dv.prL_f hs]
     obtain ⟨h1,h2,h3⟩:=ih (d.step.pw k (bitsI .and .u8 (d.by'.getD k 0) x)) (k+1)
     refine ⟨h1.trans ?_,h2.trans ?_,h3.trans ?_⟩
     · simp [Dv.pw,Dv.step_by]
     · simp [Dv.pw,Dv.step_wr]
     · simp [Dv.pw,Dv.step_sz]
   · rw [Dv.prL_t hs]
     refine ⟨?_,?_,?_⟩
     · simp [Dv.pw,Dv.step_by]
     · simp [Dv.pw,Dv.step_wr]
     · simp [Dv.pw,Dv.step_sz]
theorem Dv.prog_len (d:Dv)(a:Int)(l:List Int):(d.prog a l).2.by'.length=d.by'.length∧(d.prog a l).2.wr=d.wr∧(d.prog a l).2.sz=d.sz:=by
 unfold Dv.prog
 split
 · exact ⟨rfl,rfl,rfl⟩
 · split
   · exact Dv.prL_len _ _ _
   · exact ⟨rfl,rfl,rfl⟩
theorem Dv.erase_len (d:Dv)(s:Int):(d.erase s).2.by'.length=d.by'.length∧(d.erase s).2.wr.length=d.wr.length∧(d.erase s).2.sz=d.sz:=by
 unfold Dv.erase
 split
 · exact ⟨rfl,rfl,rfl⟩
 · split
   · exact ⟨rfl,rfl,rfl⟩
   · exact ⟨orR_len _ _ _ _,by rw [Dv.er1_wr,List.length_set],rfl⟩
theorem Dv.wth_of {d:Dv} {a n:Int}(h0:0≤a)(h1:0≤n)(h2:a+n≤d.by'.length)(h3:d.by'.length≤1000000):d.wth a n=true:=by
 simp only [Dv.wth,Bool.and_eq_true,decide_eq_true_eq]
 refine ⟨h0,by omega,h1,?_⟩
 show n≤IntKind.i64.wrap (d.by'.length - a)
 rw [wr_in _ (by omega) (by omega)]
 omega
def opS (g:Lg):Int:=g.fi+g.nw.tmod g.se
def opA (g:Lg)(d:Dv):Int:=opS g * d.sz
def opH (g:Lg)(t:Int):List Int:=w4 (g.nw+1) ++ w4 t ++ [IntKind.u8.wrap g.nx,IntKind.u8.wrap (g.nx.fdiv (2 ^ 8))]
def op2 (g:Lg)(z:Int)(t:Int)(e:Dv):Int×Dv:=if (e.prog (opS g * z) (opH g t)).1=0 then (e.prog (opS g * z) (opH g t)).2.prog (opS g * z+10) [0] else e.prog (opS g * z) (opH g t)
def opn (g:Lg)(d:Dv)(t:Int):Int×Dv:=
 if (d.rdB (opA g d) d.sz).any nFF then (if (d.erase (opS g)).1=0 then op2 g d.sz t (d.erase (opS g)).2 else d.erase (opS g)) else op2 g d.sz t d
def okG (g:Lg)(d:Dv):Prop:=d.ok∧62≤d.sz∧0≤g.fi∧2≤g.se∧g.fi+g.se≤d.wr.length∧0≤g.nw∧g.nw < 1000000∧g.rs.length≤1000000
def Lg.op (g:Lg)(t:Int):Lg:=⟨g.fi,g.se,g.ov,g.nw+1,t,0,g.nx,g.rs,g.fu,g.nu,g.he⟩
theorem opS_bd {g:Lg} {d:Dv}(h:okG g d):0≤opS g∧opS g < d.wr.length∧0≤opS g * d.sz∧opS g * d.sz+d.sz≤d.by'.length:=by
 obtain ⟨⟨h1,h2,h3,h4,h5⟩,h6,h7,h8,h9,h10,h11,h12⟩:=h
 have m0:0≤g.nw.tmod g.se:=Int.tmod_nonneg _ h10
 have m1:g.nw.tmod g.se < g.se:=Int.tmod_lt_of_pos _ (by omega)
 have hs:0≤opS g∧opS g < d.wr.length:=by unfold opS; omega
 have p1:0≤opS g * d.sz:=Int.mul_nonneg hs.1 (by omega)
 have p2:(opS g+1) * d.sz≤d.wr.length * d.sz:=Int.mul_le_mul_of_nonneg_right (by omega) (by omega)
 have p3:(opS g+1) * d.sz=opS g * d.sz+d.sz:=by rw [Int.add_mul,Int.one_mul]
 exact ⟨hs.1,hs.2,p1,by omega⟩
theorem opH_len (g:Lg)(t:Int):(opH g t).length=10:=rfl
theorem op2_t {g:Lg} {z t:Int} {e:Dv}(h:(e.prog (opS g * z) (opH g t)).1=0):op2 g z t e=(e.prog (opS g * z) (opH g t)).2.prog (opS g * z+10) [0]:=by rw [op2,if_pos h]
theorem op2_f {g:Lg} {z t:Int} {e:Dv}(h:(e.prog (opS g * z) (opH g t)).1=10):op2 g z t e=e.prog (opS g * z) (opH g t):=by rw [op2,if_neg (by omega)]
theorem opn_1 {g:Lg} {d:Dv} {t:Int}(h:(d.rdB (opS g * d.sz) d.sz).any nFF=true)(h2:(d.erase (opS g)).1=0):opn g d t=op2 g d.sz t (d.erase (opS g)).2:=by
 rw [opn,opA,if_pos h,if_pos h2]
theorem opn_2 {g:Lg} {d:Dv} {t:Int}(h:(d.rdB (opS g * d.sz) d.sz).any nFF=true)(h2:(d.erase (opS g)).1=10):opn g d t=d.erase (opS g):=by
 rw [opn,opA,if_pos h,if_neg (by omega)]
theorem opn_3 {g:Lg} {d:Dv} {t:Int}(h:(d.rdB (opS g * d.sz) d.sz).any nFF=false):opn g d t=op2 g d.sz t d:=by
 rw [opn,if_neg (by rw [opA,h]; decide)]
def COp:Ctr:= .gr Bool [] true λbs xs=>match xs with
 | [.ptr 0 0,.int .i64 t]=>(match bs with
   | [_,_,_,_,_]=>some (bs=grR (deG bs) ((deD bs).sd false)∧okG (deG bs) (deD bs)∧keeps (deG bs).rs t,λb=>((opn (deG bs) ((deD bs).sd false) t).1=eno b,.int .i64 (eno b),match b with
     | false=>grR ((deG bs).op t) ((opn (deG bs) ((deD bs).sd false) t).2.sd false)
     | true=>grR (deG bs) ((opn (deG bs) ((deD bs).sd false) t).2.sd true)))
   | _=>none)
 | _=>none
theorem barl93_47:(barOK [
 ⟨(some 37),.mov (.t 0),none,[]⟩,
 ⟨(some 38),.nilchk (.t 37),none,[0]⟩,
 ⟨(some 39),.faddr 0 (.t 38),none,[0,1]⟩,
 ⟨(some 40),.load 1 false (.t 39),none,[1,0,2]⟩,
 ⟨(some 41),.mov (.t 7),none,[]⟩,
 ⟨(some 42),.mov (.t 0),none,[]⟩,
 ⟨(some 43),.nilchk (.t 42),none,[5]⟩,
 ⟨(some 44),.faddr 0 (.t 43),none,[5,6]⟩,
 ⟨(some 45),.load 1 false (.t 44),none,[6,5,7]⟩,
 ⟨(some 46),.call 47 [(.t 45)],none,[7,5,6,8]⟩] ⟨(some 47),.call 46 [(.t 40),(.t 41),(.t 46)],none,[8,6,5,7,2,0,1,9,4,3]⟩ [
 ⟨(some 36),.mov (.t 47),none,[3,4,9,1,0,2,7,5,6,8,10]⟩,
 ⟨(some 48),.extract 0 (.t 36),none,[10,8,6,5,7,2,0,1,9,4,3,11]⟩,
 ⟨(some 49),.extract 1 (.t 36),none,[10,8,6,5,7,2,0,1,9,4,3,11]⟩,
 ⟨(some 8),.mov (.t 48),none,[11,9,8,7,6,5,4,3,2,1,0,10,12]⟩,
 ⟨(some 9),.mov (.t 49),none,[12,11,10,9,8,7,6,5,4,3,2,1,0,14,13]⟩] =true) =True:=bar93_47
theorem barl93_88:(barOK [
 ⟨(some 65),.mov (.t 0),none,[]⟩,
 ⟨(some 66),.nilchk (.t 65),none,[0]⟩,
 ⟨(some 67),.faddr 0 (.t 66),none,[0,1]⟩,
 ⟨(some 68),.load 1 false (.t 67),none,[1,0,2]⟩,
 ⟨(some 69),.mov (.t 7),none,[]⟩,
 ⟨(some 70),.mov (.t 5),none,[]⟩,
 ⟨(some 71),.call 115 [(.t 70)],none,[5]⟩,
 ⟨(some 72),.load 1 false (.t 3),none,[]⟩,
 ⟨(some 73),.call 115 [(.t 72)],none,[5,6,7]⟩,
 ⟨(some 74),.appD 5 1 [.int .u8 0] (.t 71) (.t 73),none,[7,5,8,6]⟩,
 ⟨(some 75),.mov (.t 0),none,[]⟩,
 ⟨(some 76),.nilchk (.t 75),none,[10]⟩,
 ⟨(some 77),.faddr 7 (.t 76),none,[10,11]⟩,
 ⟨(some 78),.load 1 false (.t 77),none,[11,10,12]⟩,
 ⟨(some 79),.conv .u8 (.t 78),none,[12,10,11,13]⟩,
 ⟨(some 80),.mov (.t 0),none,[]⟩,
 ⟨(some 81),.nilchk (.t 80),none,[15]⟩,
 ⟨(some 82),.faddr 7 (.t 81),none,[15,16]⟩,
 ⟨(some 83),.load 1 false (.t 82),none,[16,15,17]⟩,
 ⟨(some 84),.shr 8 (.t 83),none,[17,15,16,18]⟩,
 ⟨(some 85),.conv .u8 (.t 84),none,[18,16,15,17,19]⟩,
 ⟨(some 86),.bslice 2 [.int .u8 0] [(0,(.t 79)),(1,(.t 85))],none,[19,17,15,16,18,13,11,10,12,20,14]⟩,
 ⟨(some 87),.appD 5 1 [.int .u8 0] (.t 74) (.t 86),none,[14,20,12,10,11,13,18,16,15,17,19,6,8,5,7,21,9]⟩] ⟨(some 88),.call 58 [(.t 68),(.t 69),(.t 87)],none,[9,21,7,5,8,6,19,17,15,16,18,13,11,10,12,20,14,2,0,1,22,4,3]⟩ [
 ⟨(some 9),.mov (.t 88),none,[22,21,20,19,18,17,16,15,14,13,12,11,10,9,8,7,6,5,4,3,2,1,0,23]⟩] =true) =True:=bar93_88
def mxT (g:Lg):Int:=max g.tl 1
theorem mx_fold (g:Lg):max g.tl 1=mxT g:=rfl
def Lg.nl (g:Lg):Lg:=⟨g.fi,g.se,g.ov,g.nw,g.tl,g.us,g.nx,[],g.fu,g.nu,g.he⟩
theorem nl_fi (g:Lg):g.nl.fi=g.fi:=rfl
theorem nl_se (g:Lg):g.nl.se=g.se:=rfl
theorem nl_ov (g:Lg):g.nl.ov=g.ov:=rfl
theorem nl_nw (g:Lg):g.nl.nw=g.nw:=rfl
theorem nl_tl (g:Lg):g.nl.tl=g.tl:=rfl
theorem nl_us (g:Lg):g.nl.us=g.us:=rfl
theorem nl_nx (g:Lg):g.nl.nx=g.nx:=rfl
theorem nl_rs (g:Lg):g.nl.rs= []:=rfl
theorem nl_fu (g:Lg):g.nl.fu=g.fu:=rfl
theorem nl_nu (g:Lg):g.nl.nu=g.nu:=rfl
theorem nl_he (g:Lg):g.nl.he=g.he:=rfl
theorem nl_op (g:Lg)(t:Int):(g.nl.op t) =(g.op t).nl:=rfl
theorem op_fi (g:Lg)(t:Int):(g.op t).fi=g.fi:=rfl
theorem op_se (g:Lg)(t:Int):(g.op t).se=g.se:=rfl
theorem op_ov (g:Lg)(t:Int):(g.op t).ov=g.ov:=rfl
theorem op_nw (g:Lg)(t:Int):(g.op t).nw=g.nw+1:=rfl
theorem op_tl (g:Lg)(t:Int):(g.op t).tl=t:=rfl
theorem op_us (g:Lg)(t:Int):(g.op t).us=0:=rfl
theorem op_nx (g:Lg)(t:Int):(g.op t).nx=g.nx:=rfl
theorem op_rs (g:Lg)(t:Int):(g.op t).rs=g.rs:=rfl
theorem op_fu (g:Lg)(t:Int):(g.op t).fu=g.fu:=rfl
theorem op_nu (g:Lg)(t:Int):(g.op t).nu=g.nu:=rfl
theorem op_he (g:Lg)(t:Int):(g.op t).he=g.he:=rfl
theorem okG_r {g:Lg} {d:Dv}(h:okG g d):okG g (d.sd false):=h
def rm (g:Lg)(z:Int):Bool:=decide (g.nw=0) || decide (g.us=slD z)
def okR (g:Lg)(d:Dv):Prop:=okG g d∧0≤g.tl∧g.tl≤1000000∧g.nw+1 - mxT g≤g.se - 2
def CGw:Ctr:= .gr Bool [] true λbs xs=>match xs with
 | [.ptr 0 0]=>(match bs with
   | [_,_,_,_,_]=>some (bs=grR (deG bs) ((deD bs).sd false)∧okR (deG bs) (deD bs)∧keeps (deG bs).rs (mxT (deG bs)),λb=>((opn (deG bs) ((deD bs).sd false) (mxT (deG bs))).1=eno b,.int .i64 (eno b),match b with
     | false=>grR ((deG bs).op (mxT (deG bs))) ((opn (deG bs) ((deD bs).sd false) (mxT (deG bs))).2.sd false)
     | true=>grR (deG bs) ((opn (deG bs) ((deD bs).sd false) (mxT (deG bs))).2.sd true)))
   | _=>none)
 | _=>none
theorem walk56r (P93:Phi 93=some COp)(g:Lg)(d:Dv)(h:okR g d)(hk:keeps g.rs (mxT g)):evC Phi (noI) rc56 ⟨initS [.ptr 0 0],lookM (grR g (d.sd false))⟩ (kRetG rv56 (λb=>((opn g (d.sd false) (mxT g)).1=eno b,.int .i64 (eno b),match b with | false=>grR (g.op (mxT g)) ((opn g (d.sd false) (mxT g)).2.sd false) | true=>grR g ((opn g (d.sd false) (mxT g)).2.sd true)))):=by
 simp (maxSteps:=2000000) only [rc56,grR,Lg.cs,Dv.cs,Dv.sd_sz,Dv.sd_st,Dv.sd_lf,Dv.sd_to,Dv.sd_dn,Dv.sd_by,Dv.sd_wr,rv56,op_fi,op_se,op_ov,op_nw,op_tl,op_us,op_nx,op_fu,op_nu,op_he,op_rs,pk,un,Nat.reduceEqDiff,↓reduceIte,mx_fold,Nat.reduceAdd,Nat.reduceLeDiff,↓Bool.exists_bool,eno_f,eno_t,P93,COp,Nat.reduceBEq,Nat.reduceLT,deG_R,decR_rcs,Lg.eta,deD_R,Dv.de_gr,Qh0,Qg0,Dv.sd_mk,Dv.sd_sd,↓Bool.forall_bool,Option.isSome_some]
 obtain ⟨hg,ht0,ht1,hroom⟩:=id h
 obtain ⟨⟨h1,h2,h3,h4,h5⟩,h6,h7,h8,h9,h10,h11,h12⟩:=id hg
 have hm:mxT g=max g.tl 1:=rfl
 have e0:IntKind.i64.wrap (g.se - 2) =g.se - 2:=wr_in _ (by omega) (by omega)
 have e1:IntKind.i64.wrap (g.nw+1) =g.nw+1:=wr_in _ (by omega) (by omega)
 have e2:IntKind.i64.wrap (g.nw+1 - mxT g) =g.nw+1 - mxT g:=wr_in _ (by omega) (by omega)
 simp only [e0,e1,e2]
 refine ⟨λhc=>absurd (of_decide_eq_true hc) (by omega),λ_=>⟨⟨okG_r hg,hk⟩,λho=>?_,λho=>?_⟩⟩
 · simp only [ho,and_self,true_or]
 · simp only [ho,and_self,or_true]
def adS (g:Lg):Int:=g.fi+(g.nw - 1).tmod g.se
def adA (g:Lg)(z:Int):Int:=adS g * z+11+g.us * 17
def adE (g:Lg)(e:Ev):Ev:=⟨g.nx,e.t,e.g,e.st,e.sn,e.ty,e.de,e.a,e.b,e.c⟩
def adB (g:Lg)(e:Ev):List Int:=encE (adE g e) ++ [0]
def Lg.ad (g:Lg)(e:Ev):Lg:=⟨g.fi,g.se,g.ov,g.nw,g.tl,g.us+1,beh g.nx,g.rs ++ [⟨g.nw,adE g e⟩],g.fu,g.nu,g.he⟩
def putE (g:Lg)(d:Dv)(e:Ev):Int×Lg×Dv:=if (d.prog (adA g d.sz) (adB g e)).1=0 then (0,g.ad e,(d.prog (adA g d.sz) (adB g e)).2) else ((d.prog (adA g d.sz) (adB g e)).1,g,(d.prog (adA g d.sz) (adB g e)).2)
def addE (g:Lg)(d:Dv)(e:Ev):Int×Lg×Dv:=
 if rm g d.sz then (if (opn g d (mxT g)).1=0 then putE (g.op (mxT g)) (opn g d (mxT g)).2 e else ((opn g d (mxT g)).1,g,(opn g d (mxT g)).2)) else putE g d e
def okA (g:Lg)(d:Dv)(e:Ev):Prop:=okG g d∧0≤g.us∧g.us≤slD d.sz∧0≤g.tl∧g.tl≤1000000∧1≤g.nx∧g.nx≤65534∧vE e=true∧e.id=0∧(rm g d.sz=true→g.nw+1 - mxT g≤g.se - 2∧keeps g.rs (mxT g))
def grA (g:Lg)(d:Dv)(r i j:Nat):List (Nat×Blk):=[(0,.cells (g.cs (.vw r 0 0 0))),(1,.cells (d.cs i j)),(r,.buf 148 [.int .i64 0,.int .u16 0,.int .u32 0,.int .u16 0,.int .u8 0,.int .u8 0,.int .u8 0,.bool false,.int .u8 0,.int .u8 0,.int .u8 0] (rcs g.rs)),(i,.buf 5 [.int .u8 0] (u8s d.by')),(j,.buf 3 [.int .i64 0] (i64s d.wr))]
def grD (d:Dv)(i j:Nat):List (Nat×Blk):=[(0,.cells dead),(1,.cells (d.cs i j)),(i,.buf 5 [.int .u8 0] (u8s d.by')),(j,.buf 3 [.int .i64 0] (i64s d.wr))]
def CAdd:Ctr:= .gr Bool [0] true λbs xs=>match xs with
 | [.ptr 0 0,.agg [.int .u16 id,.int .u32 t,.int .u16 g,.int .u8 st,.int .u8 sn,.int .u8 ty,.bool de,.int .u8 a,.int .u8 b,.int .u8 c]]=>(match bs with
   | [_,_,_,_,_]=>some (bs=grA (deG bs) ((deD bs).sd false) 1048576 33 34∧okA (deG bs) (deD bs) ⟨id,t,g,st,sn,ty,de,a,b,c⟩,λk=>((addE (deG bs) ((deD bs).sd false) ⟨id,t,g,st,sn,ty,de,a,b,c⟩).1=eno k,(match k with
     | false=> .tup [.int .u16 (deG bs).nx,.int .i64 0]
     | true=> .tup [.int .u16 0,.int .i64 10]),match k with
     | false=>grA (addE (deG bs) ((deD bs).sd false) ⟨id,t,g,st,sn,ty,de,a,b,c⟩).2.1 ((addE (deG bs) ((deD bs).sd false) ⟨id,t,g,st,sn,ty,de,a,b,c⟩).2.2.sd false) 7104 33 34
     | true=>grD ((addE (deG bs) ((deD bs).sd false) ⟨id,t,g,st,sn,ty,de,a,b,c⟩).2.2.sd true) 33 34))
   | _=>none)
 | _=>none
theorem opn_len (g:Lg)(d:Dv)(t:Int):(opn g d t).2.by'.length=d.by'.length∧(opn g d t).2.wr.length=d.wr.length∧(opn g d t).2.sz=d.sz:=by
 have h2:∀ z (e:Dv),(op2 g z t e).2.by'.length=e.by'.length∧(op2 g z t e).2.wr.length=e.wr.length∧(op2 g z t e).2.sz=e.sz:=by
  intro z e
  obtain ⟨a1,a2,a3⟩:=Dv.prog_len e (opS g * z) (opH g t)
  unfold op2
  split
  · obtain ⟨b1,b2,b3⟩:=Dv.prog_len (e.prog (opS g * z) (opH g t)).2 (opS g * z+10) [0]
    exact ⟨b1.trans a1,by rw [b2,a2],b3.trans a3⟩
  · exact ⟨a1,by rw [a2],a3⟩
 obtain ⟨c1,c2,c3⟩:=Dv.erase_len d (opS g)
 unfold opn
 split
 · split
   · obtain ⟨b1,b2,b3⟩:=h2 d.sz (d.erase (opS g)).2
     exact ⟨b1.trans c1,b2.trans c2,b3.trans c3⟩
   · exact ⟨c1,c2,c3⟩
 · exact h2 _ _
theorem opn_dn {g:Lg} {d:Dv}(t:Int)(h:okG g d)(hd:d.dn=false):((opn g d t).1=0∧(opn g d t).2.dn=false)∨((opn g d t).1=10∧(opn g d t).2.dn=true):=by
 obtain ⟨o1,o2,o3,o4⟩:=opS_bd h
 obtain ⟨⟨h1,h2,h3,h4,h5⟩,h6,_⟩:=h
 have h7:∀ (e:Dv),e.dn=false→e.by'.length=d.by'.length→((op2 g d.sz t e).1=0∧(op2 g d.sz t e).2.dn=false)∨((op2 g d.sz t e).1=10∧(op2 g d.sz t e).2.dn=true):=by
  intro e he hl
  have hw:e.wth (opS g * d.sz) ((opH g t).length:Nat) =true:=Dv.wth_of o3 (by omega) (by rw [opH_len]; omega) (by omega)
  rcases Dv.prog_dn he hw with ⟨p1,p2⟩ | ⟨p1,p2⟩
  · rw [op2_t p1]
    exact Dv.prog_dn p2 (Dv.wth_of (by omega) (by omega) (by rw [(Dv.prog_len e _ _).1,hl]; show opS g * d.sz+10+((1:Nat):Int)≤_; omega) (by rw [(Dv.prog_len e _ _).1]; omega))
  · rw [op2_f p1]
    exact .inr ⟨p1,p2⟩
 cases hb:(d.rdB (opS g * d.sz) d.sz).any nFF
 · rw [opn_3 hb]
   exact h7 d hd rfl
 · rcases Dv.erase_dn hd ⟨o1,o2⟩ with ⟨p1,p2⟩ | ⟨p1,p2⟩
   · rw [opn_1 hb p1]
     exact h7 _ p2 (Dv.erase_len d (opS g)).1
   · rw [opn_2 hb p1]
     exact .inr ⟨p1,p2⟩
theorem adr {fi q se sz us w:Int}(h0:0≤fi)(h1:2≤se)(h2:fi+se≤w)(h3:w≤16)(h4:0≤q)(h5:q≤1000000)(h6:0≤sz)(h7:sz≤1024)(h8:0≤us)(h9:us≤1024):
 IntKind.i64.wrap (IntKind.i64.wrap (IntKind.i64.wrap (IntKind.i64.wrap (fi+(IntKind.i64.wrap q).tmod se) * sz)+11)+IntKind.i64.wrap (us * 17)) =(fi+q.tmod se) * sz+11+us * 17∧0≤(fi+q.tmod se) * sz∧(fi+q.tmod se) * sz+sz≤w * sz:=by
 have m0:0≤q.tmod se:=Int.tmod_nonneg _ h4
 have m1:q.tmod se < se:=Int.tmod_lt_of_pos _ (by omega)
 have p1:0≤(fi+q.tmod se) * sz:=Int.mul_nonneg (by omega) h6
 have p2:(fi+q.tmod se+1) * sz≤w * sz:=Int.mul_le_mul_of_nonneg_right (by omega) h6
 have p3:(fi+q.tmod se+1) * sz=(fi+q.tmod se) * sz+sz:=by rw [Int.add_mul,Int.one_mul]
 have p4:w * sz≤16 * sz:=Int.mul_le_mul_of_nonneg_right h3 h6
 rw [wr_in q (by omega) (by omega),wr_in (fi+q.tmod se) (by omega) (by omega),wr_in ((fi+q.tmod se) * sz) (by omega) (by omega),wr_in (us * 17) (by omega) (by omega),wr_in ((fi+q.tmod se) * sz+11) (by omega) (by omega),wr_in _ (by omega) (by omega)]
 exact ⟨rfl,p1,by omega⟩
theorem slD_bd {z:Int}(h:62≤z)(h2:z≤1024):slD z=(z - 11).tdiv 17∧1≤slD z∧slD z * 17≤z - 11:=by
 have e:slD z=(z - 11).tdiv 17:=by
  unfold slD W
  rw [wr_in (z - 11) (by omega) (by omega)]
  rw [wr_in _ (by rw [Int.tdiv_eq_ediv_of_nonneg (by omega)]; omega) (by rw [Int.tdiv_eq_ediv_of_nonneg (by omega)]; omega)]
 rw [e,Int.tdiv_eq_ediv_of_nonneg (by omega)]
 exact ⟨rfl,by omega,by omega⟩
theorem addE_1 {g:Lg} {d:Dv}(e:Ev)(h:rm g d.sz=true)(h2:(opn g d (mxT g)).1=0):addE g d e=putE (g.op (mxT g)) (opn g d (mxT g)).2 e:=by rw [addE,if_pos h,if_pos h2]
theorem addE_2 {g:Lg} {d:Dv}(e:Ev)(h:rm g d.sz=true)(h2:(opn g d (mxT g)).1=10):addE g d e=(10,g,(opn g d (mxT g)).2):=by rw [addE,if_pos h,if_neg (by omega),h2]
theorem addE_3 {g:Lg} {d:Dv}(e:Ev)(h:rm g d.sz=false):addE g d e=putE g d e:=by rw [addE,if_neg (by rw [h]; decide)]
theorem putE_t {g:Lg} {d:Dv} {e:Ev}(h:(d.prog (adA g d.sz) (adB g e)).1=0):putE g d e=(0,g.ad e,(d.prog (adA g d.sz) (adB g e)).2):=by rw [putE,if_pos h]
theorem putE_f {g:Lg} {d:Dv} {e:Ev}(h:(d.prog (adA g d.sz) (adB g e)).1=10):putE g d e=(10,g,(d.prog (adA g d.sz) (adB g e)).2):=by rw [putE,if_neg (by omega),h]
theorem adB_len (g:Lg)(e:Ev):(adB g e).length=17:=rfl
theorem encE_len (e:Ev):(encE e).length=16:=rfl
theorem barl24_92:(barOK [
 ⟨(some 84),.mov (.t 0),none,[]⟩,
 ⟨(some 85),.nilchk (.t 84),none,[0]⟩,
 ⟨(some 86),.faddr 0 (.t 85),none,[0,1]⟩,
 ⟨(some 87),.load 1 false (.t 86),none,[1,0,2]⟩,
 ⟨(some 88),.mov (.t 9),none,[]⟩,
 ⟨(some 89),.mov (.t 7),none,[]⟩,
 ⟨(some 90),.bslice 1 [.int .u8 0] [(0,(.c (.int .u8 0)))],none,[]⟩,
 ⟨(some 91),.appD 5 1 [.int .u8 0] (.t 89) (.t 90),none,[6,5]⟩] ⟨(some 92),.call 58 [(.t 87),(.t 88),(.t 91)],none,[5,6,2,0,1,7,4,3]⟩ [
 ⟨(some 10),.mov (.t 92),none,[7,6,5,4,3,2,1,0,8]⟩] =true) =True:=bar24_92
def Lg.su (g:Lg)(u:Int):Lg:=⟨g.fi,g.se,g.ov,g.nw,g.tl,u,g.nx,g.rs,g.fu,g.nu,g.he⟩
def Lg.sn (g:Lg)(n:Int):Lg:=⟨g.fi,g.se,g.ov,g.nw,g.tl,g.us,n,g.rs,g.fu,g.nu,g.he⟩
def Lg.sr (g:Lg)(r:Rc):Lg:=⟨g.fi,g.se,g.ov,g.nw,g.tl,g.us,g.nx,g.rs ++ [r],g.fu,g.nu,g.he⟩
def bad (s:List Int):Bool:=!decide (g0 s 16=0) || !decide (dcK (s.take 16) =0) || decide ((dcE (s.take 16)).id=0)
def ldU (g:Lg)(last:Bool)(s:List Int)(i:Int):Lg:=if last && s.any nFF then g.su (i+1) else g
def ldS (g:Lg)(last:Bool)(q:Int)(s:List Int)(i:Int):Lg:=
 if bad s then ldU g last s i else if last then ((ldU g last s i).sr ⟨q,dcE (s.take 16)⟩).sn (beh (dcE (s.take 16)).id) else (ldU g last s i).sr ⟨q,dcE (s.take 16)⟩
def lst' (g:Lg)(h:Hd):Bool:=decide (h.s=g.nw)
def ldN (g:Lg)(b:List Int)(h:Hd):Nat→Lg
 | 0=>if lst' g h then g.sn h.i else g
 | i+1=>ldS (ldN g b h i) (lst' g h) h.s (slot b i) i
def ldG (g:Lg)(b:List Int)(h:Hd):Lg:=ldN g b h (slD b.length).toNat
theorem ldU_len (g:Lg)(last:Bool)(s:List Int)(i:Int):(ldU g last s i).rs=g.rs:=by unfold ldU; split<;>rfl
theorem ldS_len (g:Lg)(last:Bool)(q:Int)(s:List Int)(i:Int):(ldS g last q s i).rs.length≤g.rs.length+1:=by
 unfold ldS
 split
 · rw [ldU_len]; omega
 · split
   · show ((ldU g last s i).rs ++ _).length≤_
     rw [ldU_len,List.length_append]; exact Nat.le_refl _
   · show ((ldU g last s i).rs ++ _).length≤_
     rw [ldU_len,List.length_append]; exact Nat.le_refl _
theorem ldN_len (g:Lg)(b:List Int)(h:Hd):∀ i,(ldN g b h i).rs.length≤g.rs.length+i:=by
 intro i
 induction i with
 | zero=>unfold ldN; split<;>exact Nat.le_refl _
 | succ i ih=>have:=ldS_len (ldN g b h i) (lst' g h) h.s (slot b i) i; unfold ldN; omega
def avB:AV→List Int
 | .lst _ es=>decU es
 | _=>[]
def CLd:Ctr:= .gr Unit [0] true λbs xs=>match xs with
 | [.ptr 0 0,x,.agg [.int .i64 s,.int .i64 t,.int .u16 i]]=>(match bs with
   | [_,_,_,_,_]=>some (bs=grA (deG bs) (deD bs) 1048576 33 34∧x= .lst [.int .u8 0] (u8s (avB x))∧62≤(avB x).length∧(avB x).length≤1024∧(deG bs).rs.length≤1000000,λ_=>(True,.tup [],grA (ldG (deG bs) (avB x) ⟨s,t,i⟩) (deD bs) 3200 33 34))
   | _=>none)
 | _=>none
theorem slot_len {b:List Int} {i:Nat}(h:11+(i:Int) * 17+17≤b.length):(slot b i).length=17:=by
 simp only [slot,List.length_take,List.length_drop]; omega
theorem ldN_s (g:Lg)(b:List Int)(h:Hd)(i:Nat):ldN g b h (i+1) =ldS (ldN g b h i) (lst' g h) h.s (slot b i) i:=rfl
def Lg.co (g:Lg)(o:Nat)(r:AV):List AV:=[.ptr o 0,.int .i64 g.fi,.int .i64 g.se,.bool g.ov,.int .i64 g.nw,.int .i64 g.tl,.int .i64 g.us,.int .u16 g.nx,r,.bool g.fu,.int .u16 g.nu,.bool g.he,.bool false]
def secB (d:Dv)(fi k:Int):List Int:=(d.sd false).rdB ((fi+k) * d.sz) d.sz
def hE (d:Dv)(fi k:Int):Hd:=hdL (secB d fi k)
def hO (d:Dv)(fi se k:Int):Bool:=hdK se (secB d fi k) k
def hd0:Hd:=⟨0,0,0⟩
def hV (d:Dv)(fi se:Int)(i k:Nat):Hd:=if k < i∧(k:Int) < se∧hO d fi se k=true then hE d fi k else hd0
def bL (d:Dv)(fi se:Int)(i k:Nat):AV:=if k < i∧(k:Int) < se∧hO d fi se k=true then .lst [.int .u8 0] (u8s (secB d fi k)) else .nil
theorem nlB (d:Dv)(fi se:Int)(i k:Nat):NL (bL d fi se i k):=by
 unfold bL
 split
 · exact .lst _ _
 · exact .nil
def bAr (d:Dv)(fi se:Int)(i:Nat):List (List AV):=(List.range se.toNat).map λk=>[bL d fi se i k]
def hAr (d:Dv)(fi se:Int)(i:Nat):List (List AV):=(List.range se.toNat).map λk=>[.int .i64 (hV d fi se i k).s,.int .i64 (hV d fi se i k).t,.int .u16 (hV d fi se i k).i]
theorem bAr_len (d:Dv)(fi se:Int)(i:Nat):(bAr d fi se i).length=se.toNat:=by simp [bAr]
theorem hAr_len (d:Dv)(fi se:Int)(i:Nat):(hAr d fi se i).length=se.toNat:=by simp [hAr]
theorem getE_bAr (d:Dv)(fi se:Int)(i k:Nat):getE [.nil] (bAr d fi se i) k= [bL d fi se i k]:=by
 rw [getE,bAr,List.getD_eq_getElem?_getD,List.getElem?_map]
 by_cases h:k < se.toNat
 · rw [List.getElem?_range h]; rfl
 · rw [List.getElem?_eq_none (by simpa using h)]
   show [AV.nil] = [bL d fi se i k]
   rw [bL,if_neg]
   intro hc; omega
theorem getE_hAr (d:Dv)(fi se:Int)(i k:Nat):getE [.int .i64 0,.int .i64 0,.int .u16 0] (hAr d fi se i) k= [.int .i64 (hV d fi se i k).s,.int .i64 (hV d fi se i k).t,.int .u16 (hV d fi se i k).i]:=by
 rw [getE,hAr,List.getD_eq_getElem?_getD,List.getElem?_map]
 by_cases h:k < se.toNat
 · rw [List.getElem?_range h]; rfl
 · rw [List.getElem?_eq_none (by simpa using h)]
   have:hV d fi se i k=hd0:=by
    rw [hV,if_neg]
    intro hc; omega
   rw [this]; rfl
def nwF (d:Dv)(fi se:Int):Nat→Int×Int
 | 0=>(0,0)
 | i+1=>if hO d fi se i=true∧(nwF d fi se i).1 < (hE d fi i).s then ((hE d fi i).s,(hE d fi i).t) else nwF d fi se i
def lqB (d:Dv)(fi se:Int)(ov:Bool):Lg:=⟨fi,se,ov,(nwF d fi se se.toNat).1,(nwF d fi se se.toNat).2,0,1,[],false,0,false⟩
def ix (d:Dv)(fi se:Int)(k:Nat):Nat:=(((nwF d fi se se.toNat).2+k - 1).tmod se).toNat
def lqF (d:Dv)(fi se:Int)(ov:Bool):Nat→Lg
 | 0=>lqB d fi se ov
 | k+1=>if (hV d fi se se.toNat (ix d fi se k)).s=(nwF d fi se se.toNat).2+k then ldG (lqF d fi se ov k) (secB d fi (ix d fi se k)) (hE d fi (ix d fi se k)) else lqF d fi se ov k
def opG (d:Dv)(fi se:Int)(ov:Bool):Lg:=lqF d fi se ov (if 0 < (nwF d fi se se.toNat).2 then ((nwF d fi se se.toNat).1+1 - (nwF d fi se se.toNat).2).toNat else 0)
def okO (d:Dv)(fi se:Int):Prop:=d.ok∧62≤d.sz∧0≤fi∧2≤se∧fi+se≤d.wr.length
def COpen:Ctr:= .gr Unit [] true λbs xs=>match xs with
 | [.ptr 0 0,.int .i64 fi,.int .i64 se,.bool ov]=>some (bs=((Dv.de bs).sd false).gr∧okO (Dv.de bs) fi se,λ_=>(True,.tup [.ptr 2944 0,.int .i64 0],((Dv.de bs).sd false).gr ++ [(2944,.cells ((opG (Dv.de bs) fi se ov).co 0 (.vw 6400 0 0 0))),(6400,.buf 148 [.int .i64 0,.int .u16 0,.int .u32 0,.int .u16 0,.int .u8 0,.int .u8 0,.int .u8 0,.bool false,.int .u8 0,.int .u8 0,.int .u8 0] (rcs (opG (Dv.de bs) fi se ov).rs))]))
 | _=>none
theorem avB_u8s (z:List AV)(l:List Int):avB (.lst z (u8s l)) =l:=by show decU (u8s l) =l; rw [Qh0]
theorem sec_bd {d:Dv} {fi se k:Int}(h:okO d fi se)(h0:0≤k)(h1:k < se):IntKind.i64.wrap (IntKind.i64.wrap (fi+k) * d.sz) =(fi+k) * d.sz∧(d.sd false).wth ((fi+k) * d.sz) d.sz=true∧((secB d fi k).length:Int) =d.sz:=by
 obtain ⟨⟨a1,a2,a3,a4,a5⟩,a6,a7,a8,a9⟩:=h
 have p1:0≤(fi+k) * d.sz:=Int.mul_nonneg (by omega) (by omega)
 have p2:(fi+k+1) * d.sz≤d.wr.length * d.sz:=Int.mul_le_mul_of_nonneg_right (by omega) (by omega)
 have p3:(fi+k+1) * d.sz=(fi+k) * d.sz+d.sz:=by rw [Int.add_mul,Int.one_mul]
 have hw:(d.sd false).wth ((fi+k) * d.sz) d.sz=true:=Dv.wth_of p1 (by omega) (by show (fi+k) * d.sz+d.sz≤d.by'.length; omega) a1
 refine ⟨by rw [wr_in (fi+k) (by omega) (by omega),wr_in _ (by omega) (by omega)],hw,?_⟩
 rw [secB,Dv.rdB,if_neg (by simp [Dv.sd]),if_pos hw,List.length_take,List.length_drop,Dv.sd_by]
 omega
theorem bAr_t {d:Dv} {fi se:Int} {i:Nat}(hi:i < se.toNat)(h:hO d fi se i=true):(bAr d fi se i).set i [.lst [.int .u8 0] (u8s (secB d fi i))] =bAr d fi se (i+1):=by
 apply List.ext_getElem?
 intro k
 rw [List.getElem?_set,bAr_len]
 by_cases e:i=k
 · subst e
   rw [if_pos rfl,if_pos hi,bAr,List.getElem?_map,List.getElem?_range hi]
   simp only [Option.map_some,bL]
   rw [if_pos ⟨by omega,by omega,h⟩]
 · rw [if_neg e]
   simp only [bAr,List.getElem?_map]
   by_cases hk:k < se.toNat
   · rw [List.getElem?_range hk]
     simp only [Option.map_some,bL]
     congr 2
     have:(k < i∧(k:Int) < se∧hO d fi se k=true)↔(k < i+1∧(k:Int) < se∧hO d fi se k=true):=by constructor<;>(rintro ⟨x,y⟩; exact ⟨by omega,y⟩)
     simp only [this]
   · rw [List.getElem?_eq_none (by simpa using hk)]; rfl
theorem hAr_t {d:Dv} {fi se:Int} {i:Nat}(hi:i < se.toNat)(h:hO d fi se i=true):(hAr d fi se i).set i [.int .i64 (hE d fi i).s,.int .i64 (hE d fi i).t,.int .u16 (hE d fi i).i] =hAr d fi se (i+1):=by
 apply List.ext_getElem?
 intro k
 rw [List.getElem?_set,hAr_len]
 by_cases e:i=k
 · subst e
   rw [if_pos rfl,if_pos hi,hAr,List.getElem?_map,List.getElem?_range hi]
   simp only [Option.map_some,hV]
   rw [if_pos ⟨by omega,by omega,h⟩]
 · rw [if_neg e]
   simp only [hAr,List.getElem?_map]
   by_cases hk:k < se.toNat
   · rw [List.getElem?_range hk]
     simp only [Option.map_some,hV]
     have:(k < i∧(k:Int) < se∧hO d fi se k=true)↔(k < i+1∧(k:Int) < se∧hO d fi se k=true):=by constructor<;>(rintro ⟨x,y⟩; exact ⟨by omega,y⟩)
     simp only [this]
   · rw [List.getElem?_eq_none (by simpa using hk)]; rfl
theorem un_f {d:Dv} {fi se:Int} {i:Nat}(h:hO d fi se i=false)(k:Nat):(k < i+1∧(k:Int) < se∧hO d fi se k=true)↔(k < i∧(k:Int) < se∧hO d fi se k=true):=by
 constructor
 · rintro ⟨x,y,z⟩
   refine ⟨?_,y,z⟩
   by_cases e:k=i
   · subst e; rw [h] at z; cases z
   · omega
 · rintro ⟨x,y⟩; exact ⟨by omega,y⟩
theorem bAr_f {d:Dv} {fi se:Int} {i:Nat}(h:hO d fi se i=false):bAr d fi se i=bAr d fi se (i+1):=by
 simp only [bAr,bL,un_f h]
theorem hAr_f {d:Dv} {fi se:Int} {i:Nat}(h:hO d fi se i=false):hAr d fi se i=hAr d fi se (i+1):=by
 simp only [hAr,hV,un_f h]
theorem hdK_bd {se:Int} {l:List Int} {j:Int}(h:hdK se l j=true)(h2:2≤se)(h3:se≤16):1≤(hdL l).t∧(hdL l).t≤(hdL l).s∧(hdL l).s≤2147483648∧(hdL l).s - (hdL l).t≤se - 2:=by
 simp only [hdK,Bool.and_eq_true,decide_eq_true_eq] at h
 obtain ⟨⟨⟨⟨⟨⟨⟨⟨_,b⟩,c⟩,_⟩,e⟩,f⟩,g⟩,_⟩,_⟩:=h
 have g:IntKind.i64.wrap ((hdL l).s - (hdL l).t)≤IntKind.i64.wrap (se - 2):=g
 rw [wr_in _ (by omega) (by omega),wr_in _ (by omega) (by omega)] at g
 exact ⟨e,f,c,g⟩
theorem nwF_bd {d:Dv} {fi se:Int}(h2:2≤se)(h3:se≤16):∀ i,nwF d fi se i=(0,0)∨(1≤(nwF d fi se i).2∧(nwF d fi se i).2≤(nwF d fi se i).1∧(nwF d fi se i).1≤2147483648∧(nwF d fi se i).1 - (nwF d fi se i).2≤se - 2):=by
 intro i
 induction i with
 | zero=>exact .inl rfl
 | succ i ih=>
   unfold nwF
   split
   · rename_i h
     exact .inr (hdK_bd h.1 h2 h3)
   · exact ih
theorem nwF_t {d:Dv} {fi se:Int} {i:Nat}(h:hO d fi se i=true)(h2:(nwF d fi se i).1 < (hE d fi i).s):nwF d fi se (i+1) =((hE d fi i).s,(hE d fi i).t):=by
 rw [nwF,if_pos ⟨h,h2⟩]
theorem nwF_f {d:Dv} {fi se:Int} {i:Nat}(h:¬ (hO d fi se i=true∧(nwF d fi se i).1 < (hE d fi i).s)):nwF d fi se (i+1) =nwF d fi se i:=by
 rw [nwF,if_neg h]
theorem ldG_c (g:Lg)(b:List Int)(h:Hd):(ldG g b h).nw=g.nw∧(ldG g b h).fi=g.fi∧(ldG g b h).se=g.se∧(ldG g b h).ov=g.ov∧(ldG g b h).tl=g.tl:=by
 have :∀ i,(ldN g b h i).nw=g.nw∧(ldN g b h i).fi=g.fi∧(ldN g b h i).se=g.se∧(ldN g b h i).ov=g.ov∧(ldN g b h i).tl=g.tl:=by
  intro i
  induction i with
  | zero=>unfold ldN; split<;>exact ⟨rfl,rfl,rfl,rfl,rfl⟩
  | succ i ih=>
    rw [ldN_s]
    have hU:∀ s i,(ldU (ldN g b h i) (lst' g h) s i).nw=(ldN g b h i).nw∧(ldU (ldN g b h i) (lst' g h) s i).fi=(ldN g b h i).fi∧(ldU (ldN g b h i) (lst' g h) s i).se=(ldN g b h i).se∧(ldU (ldN g b h i) (lst' g h) s i).ov=(ldN g b h i).ov∧(ldU (ldN g b h i) (lst' g h) s i).tl=(ldN g b h i).tl:=by
     intro s i; unfold ldU; split<;>exact ⟨rfl,rfl,rfl,rfl,rfl⟩
    obtain ⟨u1,u2,u3,u4,u5⟩:=hU (slot b i) i
    obtain ⟨i1,i2,i3,i4,i5⟩:=ih
    unfold ldS
    split
    · exact ⟨u1.trans i1,u2.trans i2,u3.trans i3,u4.trans i4,u5.trans i5⟩
    · split
      · exact ⟨u1.trans i1,u2.trans i2,u3.trans i3,u4.trans i4,u5.trans i5⟩
      · exact ⟨u1.trans i1,u2.trans i2,u3.trans i3,u4.trans i4,u5.trans i5⟩
 exact this _
theorem lqF_nw (d:Dv)(fi se:Int)(ov:Bool)(k:Nat):(lqF d fi se ov k).nw=(nwF d fi se se.toNat).1:=by
 induction k with
 | zero=>rfl
 | succ k ih=>
   unfold lqF
   split
   · rw [(ldG_c _ _ _).1,ih]
   · exact ih
theorem ldG_len (g:Lg)(b:List Int)(h:Hd)(hb:b.length≤1024):(ldG g b h).rs.length≤g.rs.length+64:=by
 have:=ldN_len g b h (slD b.length).toNat
 by_cases h2:62≤(b.length:Int)
 · have:=(slD_bd h2 (by omega)).2.2
   unfold ldG; omega
 · have e:slD b.length=((b.length:Int) - 11).tdiv 17:=by
    unfold slD W
    rw [wr_in ((b.length:Int) - 11) (by omega) (by omega)]
    have q1:-100≤((b.length:Int) - 11).tdiv 17∧((b.length:Int) - 11).tdiv 17≤100:=by
     by_cases h3:(11:Int)≤b.length
     · rw [Int.tdiv_eq_ediv_of_nonneg (by omega)]; omega
     · rw [show ((b.length:Int) - 11) = -(11 - b.length) by omega,Int.neg_tdiv,Int.tdiv_eq_ediv_of_nonneg (by omega)]; omega
    rw [wr_in _ (by omega) (by omega)]
   have q2:((b.length:Int) - 11).tdiv 17≤60:=by
    by_cases h3:(11:Int)≤b.length
    · rw [Int.tdiv_eq_ediv_of_nonneg (by omega)]; omega
    · rw [show ((b.length:Int) - 11) = -(11 - b.length) by omega,Int.neg_tdiv,Int.tdiv_eq_ediv_of_nonneg (by omega)]; omega
   unfold ldG; omega
theorem hV_pos {d:Dv} {fi se:Int} {n k:Nat}(h:0 < (hV d fi se n k).s):hV d fi se n k=hE d fi k∧bL d fi se n k= .lst [.int .u8 0] (u8s (secB d fi k))∧(k:Int) < se:=by
 unfold hV at h ⊢
 unfold bL
 split at h
 · rename_i hc
   rw [if_pos hc,if_pos hc]
   exact ⟨rfl,rfl,hc.2.1⟩
 · exact absurd h (by decide)
theorem secB_le {d:Dv} {fi k:Int}(h:d.sz≤1024):(secB d fi k).length≤1024:=by
 unfold secB Dv.rdB
 split
 · exact Nat.zero_le _
 · split
   · simp only [List.length_take]; omega
   · exact Nat.zero_le _
theorem lq_len {d:Dv} {fi se:Int} {ov:Bool}(h:d.sz≤1024)(k:Nat):(lqF d fi se ov k).rs.length≤64 * k:=by
 induction k with
 | zero=>exact Nat.zero_le _
 | succ k ih=>
   unfold lqF
   split
   · have:=ldG_len (lqF d fi se ov k) (secB d fi (ix d fi se k)) (hE d fi (ix d fi se k)) (secB_le h)
     omega
   · omega
theorem lqF_t {d:Dv} {fi se:Int} {ov:Bool} {k:Nat}(h:(hV d fi se se.toNat (ix d fi se k)).s=(nwF d fi se se.toNat).2+k):lqF d fi se ov (k+1) =ldG (lqF d fi se ov k) (secB d fi (ix d fi se k)) (hE d fi (ix d fi se k)):=by rw [lqF,if_pos h]
theorem lqF_f {d:Dv} {fi se:Int} {ov:Bool} {k:Nat}(h:¬ (hV d fi se se.toNat (ix d fi se k)).s=(nwF d fi se se.toNat).2+k):lqF d fi se ov (k+1) =lqF d fi se ov k:=by rw [lqF,if_neg h]
theorem barl18_140:(barOK [
 ⟨(some 131),.mov (.t 10),none,[]⟩,
 ⟨(some 132),.mov (.t 11),none,[]⟩,
 ⟨(some 133),.mov (.t 19),none,[]⟩,
 ⟨(some 134),.iaddrS [.nil] (.t 132) (.t 133),none,[2,1]⟩,
 ⟨(some 135),.load 1 false (.t 134),none,[1,2,3]⟩,
 ⟨(some 136),.mov (.t 12),none,[]⟩,
 ⟨(some 137),.mov (.t 19),none,[]⟩,
 ⟨(some 138),.iaddrS [.int .i64 0,.int .i64 0,.int .u16 0] (.t 136) (.t 137),none,[6,5]⟩,
 ⟨(some 139),.load 3 true (.t 138),none,[5,6,7]⟩] ⟨(some 140),.call 49 [(.t 131),(.t 135),(.t 139)],none,[7,6,5,3,2,1,8,4,0]⟩ [
 ] =true) =True:=bar18_140
structure K18a (d:Dv)(fi se:Int)(ov:Bool) where
 i:Nat
 hi:(i:Int)≤se
def S18a (d:Dv)(fi se:Int)(ov:Bool)(p:K18a d fi se ov):SL:=⟨[(0,.ptr 0 0),(1,Ii fi),(2,Ii se),(10,.ptr 2944 0),(11,.vw 3072 0 0 0),(12,.vw 3200 0 0 0),(50,Ii se),(51,Ii p.i)],[(0,.cells ((d.sd false).cs 32 33)),(32,.buf 5 [U 0] (u8s d.by')),(33,.buf 3 [Ii 0] (i64s d.wr)),(2944,.cells (Lg.co ⟨fi,se,ov,(nwF d fi se p.i).1,(nwF d fi se p.i).2,0,1,[],false,0,false⟩ 0 .nil)),(3072,.buf 23 [.nil] (bAr d fi se p.i)),(3200,.buf 135 [Ii 0,Ii 0,.int .u16 0] (hAr d fi se p.i))]⟩
abbrev L18a (d:Dv)(fi se:Int)(ov:Bool):LI:=⟨K18a d fi se ov,S18a d fi se ov,λp=>se.toNat - p.i,λp q=>True⟩
theorem L18aS (d:Dv)(fi se:Int)(ov:Bool):(L18a d fi se ov).S=S18a d fi se ov:=rfl
theorem L18aR (d:Dv)(fi se:Int)(ov:Bool)(p q:K18a d fi se ov):(L18a d fi se ov).R p q=(True):=rfl
structure K18b (d:Dv)(fi se:Int)(ov:Bool) where
 k:Nat
 hk:k=0∨(0 < (nwF d fi se se.toNat).2∧(nwF d fi se se.toNat).2+k≤(nwF d fi se se.toNat).1+1)
def S18b (d:Dv)(fi se:Int)(ov:Bool)(p:K18b d fi se ov):SL:=⟨[(0,.ptr 0 0),(1,Ii fi),(2,Ii se),(10,.ptr 2944 0),(11,.vw 3072 0 0 0),(12,.vw 3200 0 0 0),(18,Ii ((nwF d fi se se.toNat).2+p.k))],[(0,.cells ((d.sd false).cs 32 33)),(32,.buf 5 [U 0] (u8s d.by')),(33,.buf 3 [Ii 0] (i64s d.wr)),(2944,.cells ((lqF d fi se ov p.k).co 0 (.vw 6400 0 0 0))),(6400,.buf 148 zA (rcs (lqF d fi se ov p.k).rs)),(3072,.buf 23 [.nil] (bAr d fi se se.toNat)),(3200,.buf 135 [Ii 0,Ii 0,.int .u16 0] (hAr d fi se se.toNat))]⟩
abbrev L18b (d:Dv)(fi se:Int)(ov:Bool):LI:=⟨K18b d fi se ov,S18b d fi se ov,λp=>((nwF d fi se se.toNat).1+1 - (nwF d fi se se.toNat).2).toNat - p.k,λp q=>True⟩
theorem L18bS (d:Dv)(fi se:Int)(ov:Bool):(L18b d fi se ov).S=S18b d fi se ov:=rfl
theorem L18bR (d:Dv)(fi se:Int)(ov:Bool)(p q:K18b d fi se ov):(L18b d fi se ov).R p q=(True):=rfl
def I18 (d:Dv)(fi se:Int)(ov:Bool):Nat→LI:=λn=>if n=0 then L18a d fi se ov else L18b d fi se ov
theorem I18_0 (d:Dv)(fi se:Int)(ov:Bool):I18 d fi se ov 0=L18a d fi se ov:=rfl
theorem I18_1 (d:Dv)(fi se:Int)(ov:Bool):I18 d fi se ov 1=L18b d fi se ov:=rfl
theorem walk18 (P45:Phi 45=some CSec)(P46:Phi 46=some CReadB)(P47:Phi 47=some CSiz)(P48:Phi 48=some CHd)(P49:Phi 49=some CLd)(d:Dv)(fi se:Int)(ov:Bool)(h:okO d fi se):evC Phi (I18 d fi se ov) rc18 ⟨initS [.ptr 0 0,.int .i64 fi,.int .i64 se,.bool ov],lookM ((d.sd false).gr)⟩ (kRetG rv18 (λ(_ :Unit)=>(True,.tup [.ptr 2944 0,.int .i64 0],(d.sd false).gr ++ [(2944,.cells ((opG d fi se ov).co 0 (.vw 6400 0 0 0))),(6400,.buf 148 zA (rcs (opG d fi se ov).rs))]))):=by
 simp (maxSteps:=2000000) only [rc18,bA18_140,bO18_140,bB18_140,Dv.gr,Dv.cs,Dv.sd_sz,Dv.sd_st,Dv.sd_lf,Dv.sd_to,Dv.sd_dn,Dv.sd_by,Dv.sd_wr,rv18,Lg.co,pk,un,Nat.reduceEqDiff,↓reduceIte,P45,CSec,Nat.reduceAdd,exists_const,Nat.reduceLeDiff,Nat.reduceMul,I18_0,L18aS,S18a,L18aR,P47,CSiz,P46,CReadB,Nat.reduceLT,Nat.reduceBEq,Dv.de_gr,Qh0,Qg0,Dv.sd_mk,Option.isSome_some,P48,CHd,bAr_len,getE_bAr,hAr_len,getE_hAr,I18_1,L18bS,S18b,L18bR,barl18_140,P49,CLd,grA,Lg.cs,NL.v1 (nlB d fi se se.toNat _),NL.gv (nlB d fi se se.toNat _),NL.p0 (nlB d fi se se.toNat _),NL.w0 (nlB d fi se se.toNat _),NL.m1 (nlB d fi se se.toNat _),deG_R,decR_rcs,Lg.eta,deD_R,NL.ps (nlB d fi se se.toNat _)]
 obtain ⟨⟨a1,a2,a3,a4,a5⟩,a6,a7,a8,a9⟩:=id h
 have e0:IntKind.i64.wrap ((d.wr.length:Int) - se) =d.wr.length - se:=wr_in _ (by omega) (by omega)
 rw [e0]
 have hsec:((se.toNat:Nat):Int) =se:=by omega
 refine ⟨λhc=>?_,λ_=>⟨by omega,by omega,⟨0,by omega⟩,⟨rfl,⟨rfl,rfl⟩,?_,?_⟩,?_⟩⟩
 · simp only [Bool.or_eq_true,decide_eq_true_eq] at hc
   omega
 · simp [bAr,bL,List.map_const']
 · simp [hAr,hV,hd0,List.map_const']
 rintro ⟨i,hi⟩
 dsimp only
 refine ⟨λhc=>?_,λhc=>?_⟩
 · have hc:=of_decide_eq_true hc
   obtain ⟨e1,e2,e3⟩:=sec_bd (k:=i) h (by omega) hc
   have hB:(d.sd false).rdB ((fi+(i:Int)) * d.sz) d.sz=secB d fi i:=rfl
   have hH:hdL (secB d fi i) =hE d fi i:=rfl
   have hK:hdK se (secB d fi i) i=hO d fi se i:=rfl
   rw [e1,hB,hH,hK]
   have hi2:i < se.toNat:=by omega
   refine ⟨⟨a1,e2⟩,λ_=>⟨⟨by omega,by omega⟩,λho=>?_,λho=>?_⟩⟩
   · refine ⟨by omega,hi2,by omega,hi2,λ_ _=>⟨λhs=>?_,λhs=>?_⟩⟩
     · refine ⟨⟨i+1,by omega⟩,⟨congrArg _ (wr_succ i (by omega)),?_,bAr_t hi2 ho,hAr_t hi2 ho⟩,by dsimp only; omega⟩
       dsimp only
       rw [nwF_t ho (of_decide_eq_true hs)]
       exact ⟨rfl,rfl⟩
     · refine ⟨⟨i+1,by omega⟩,⟨congrArg _ (wr_succ i (by omega)),?_,bAr_t hi2 ho,hAr_t hi2 ho⟩,by dsimp only; omega⟩
       dsimp only
       rw [nwF_f (λhx=>absurd hx.2 (of_decide_eq_false hs))]
       exact ⟨rfl,rfl⟩
   · refine ⟨⟨i+1,by omega⟩,⟨congrArg _ (wr_succ i (by omega)),?_,bAr_f ho,hAr_f ho⟩,by dsimp only; omega⟩
     dsimp only
     rw [nwF_f (λhx=>by rw [ho] at hx; cases hx.1)]
     exact ⟨rfl,rfl⟩
 · have hc:=of_decide_eq_false hc
   have hi3:i=se.toNat:=by omega
   subst hi3
   have hnb:=nwF_bd (d:=d) (fi:=fi) (se:=se) a8 (by omega) se.toNat
   refine ⟨⟨0,.inl rfl⟩,?_,?_⟩
   · refine ⟨congrArg (AV.int .i64) ?_,⟨rfl,rfl,rfl,rfl,rfl,rfl,rfl,rfl,rfl,rfl⟩,rfl,rfl,rfl⟩
     dsimp only
     omega
   · rintro ⟨k,hk⟩
     dsimp only
     rw [lqF_nw]
     have hkb:(k:Int)≤20:=by
      rcases hk with rfl | ⟨x,y⟩
      · decide
      · rcases hnb with e | ⟨u1,u2,u3,u4⟩
        · rw [e] at x; exact absurd x (by decide)
        · omega
     have hll:=lq_len (fi:=fi) (se:=se) (ov:=ov) a4 k
     refine ⟨λhc=>?_,λhc=>?_⟩
     · simp only [Bool.and_eq_true,decide_eq_true_eq] at hc
       obtain ⟨c1,c2⟩:=hc
       have hT:1≤(nwF d fi se se.toNat).2∧(nwF d fi se se.toNat).2≤(nwF d fi se se.toNat).1∧(nwF d fi se se.toNat).1≤2147483648:=by
        rcases hnb with e | ⟨u1,u2,u3,u4⟩
        · rw [e] at c1 c2
          have c1:(0:Int)+k≤0:=c1
          have c2:(0:Int) < 0+k:=c2
          omega
        · exact ⟨u1,u2,u3⟩
       have e1:IntKind.i64.wrap ((nwF d fi se se.toNat).2+k - 1) =(nwF d fi se se.toNat).2+k - 1:=wr_in _ (by omega) (by omega)
       have e2:IntKind.i64.wrap ((nwF d fi se se.toNat).2+k+1) =(nwF d fi se se.toNat).2+((k+1:Nat):Int):=by rw [wr_in _ (by omega) (by omega)]; omega
       have m0:0≤((nwF d fi se se.toNat).2+k - 1).tmod se:=Int.tmod_nonneg _ (by omega)
       have m1:((nwF d fi se se.toNat).2+k - 1).tmod se < se:=Int.tmod_lt_of_pos _ (by omega)
       have hix:(((nwF d fi se se.toNat).2+k - 1).tmod se).toNat=ix d fi se k:=rfl
       have hil:ix d fi se k < se.toNat:=by rw [← hix]; omega
       rw [e1,e2,hix]
       refine ⟨by omega,by omega,λ_=>⟨hil,λhs=>?_,λhs=>?_⟩⟩
       · have hs:=of_decide_eq_true hs
         obtain ⟨v1,v2,v3⟩:=hV_pos (d:=d) (fi:=fi) (se:=se) (n:=se.toNat) (k:=ix d fi se k) (by omega)
         obtain ⟨_,_,x3⟩:=sec_bd (k:=ix d fi se k) h (by omega) v3
         refine ⟨by omega,hil,by omega,hil,λ_ _=>?_⟩
         rw [v1,v2,avB_u8s]
         refine ⟨⟨rfl,by omega,by omega,by omega⟩,λ_=>⟨⟨k+1,.inr (by omega)⟩,⟨rfl,?_⟩,by dsimp only; omega⟩⟩
         dsimp only
         rw [lqF_t hs]
         exact ⟨⟨rfl,rfl,rfl,rfl,rfl,rfl,rfl,rfl,rfl,rfl⟩,rfl⟩
       · have hs:=of_decide_eq_false hs
         refine ⟨⟨k+1,.inr (by omega)⟩,⟨rfl,?_⟩,by dsimp only; omega⟩
         dsimp only
         rw [lqF_f hs]
         simp only [lqF_nw,and_self]
     · have hfin:k=(if 0 < (nwF d fi se se.toNat).2 then ((nwF d fi se se.toNat).1+1 - (nwF d fi se se.toNat).2).toNat else 0):=by
        simp only [Bool.and_eq_false_iff,decide_eq_false_iff_not] at hc
        split
        · rename_i hp
          rcases hk with rfl | ⟨x,y⟩
          · rcases hnb with e | ⟨u1,u2,u3,u4⟩
            · rw [e] at hp; exact absurd hp (by decide)
            · omega
          · omega
        · rename_i hp
          rcases hk with rfl | ⟨x,y⟩
          · rfl
          · exact absurd x hp
       have ho:opG d fi se ov=lqF d fi se ov k:=by rw [opG,← hfin]
       rw [ho]
       simp only [lqF_nw,and_self]
theorem walk24r (P53:Phi 53=some CDwn)(P54:Phi 54=some CVE)(P47:Phi 47=some CSiz)(P55:Phi 55=some CSl)(P56:Phi 56=some CGw)(P57:Phi 57=some DEn)(P58:Phi 58=some CProgB)(P59:Phi 59=some CBe)(g:Lg)(d:Dv)(e:Ev)(h:okA g d e):evC Phi (noI) rc24 ⟨initS [.ptr 0 0,(.agg e.cs)],lookM (grA g (d.sd false) 1048576 33 34)⟩ (kRetG rv24 (λk=>((addE g (d.sd false) e).1=eno k,(match k with | false=> .tup [.int .u16 g.nx,.int .i64 0] | true=> .tup [.int .u16 0,.int .i64 10]),match k with | false=>grA (addE g (d.sd false) e).2.1 ((addE g (d.sd false) e).2.2.sd false) 7104 33 34 | true=>grD ((addE g (d.sd false) e).2.2.sd true) 33 34))):=by
 simp (maxSteps:=2000000) only [rc24,bA24_92,bO24_92,bB24_92,Ev.cs,grA,Lg.cs,Dv.cs,Dv.sd_sz,Dv.sd_st,Dv.sd_lf,Dv.sd_to,Dv.sd_dn,Dv.sd_by,Dv.sd_wr,rv24,grD,dead,pk,un,Nat.reduceAdd,↓reduceIte,Nat.reduceMul,Nat.reduceEqDiff,P53,CDwn,grR,Dv.bl,Nat.reduceBEq,Nat.reduceLT,Nat.reduceLeDiff,deG_R,decR_rcs,Lg.eta,deD_R,Dv.de_gr,Qh0,Qg0,Dv.sd_mk,↓Bool.forall_bool,Option.isSome_some,↓Bool.exists_bool,eno_f,eno_t,P54,CVE,Ev.eta,P47,CSiz,P55,CSl,P56,CGw,op_fi,op_se,op_ov,op_nw,op_tl,op_us,op_nx,op_fu,op_nu,op_he,op_rs,Dv.sd_sd,P57,DEn,flatU,barl24_92,u8s_snoc,P58,CProgB,Dv.gr,rcs_len,P59,CBe,dec10]
 obtain ⟨hg,u0,u1,t0,t1,n0,n1,hv,hid,hro⟩:=id h
 have hg:okG g d:=⟨hg.1,hg.2.1,hg.2.2.1,hg.2.2.2.1,hg.2.2.2.2.1,hg.2.2.2.2.2.1,hg.2.2.2.2.2.2.1,h.1.2.2.2.2.2.2.2⟩
 obtain ⟨⟨h1,h2,h3,h4,h5⟩,h6,h7,h8,h9,h10,h11,h12⟩:=id hg
 have u0:0≤g.us:=u0
 have u1:g.us≤slD d.sz:=u1
 have n0:1≤g.nx:=n0
 have n1:g.nx≤65534:=n1
 have t0:0≤g.tl:=t0
 have t1:g.tl≤1000000:=t1
 obtain ⟨s1,s2,s3⟩:=slD_bd h6 h4
 have hv2:vE ⟨g.nx,e.t,e.g,e.st,e.sn,e.ty,e.de,e.a,e.b,e.c⟩ =true:=by
  simp only [vE,Bool.and_eq_true,decide_eq_true_eq] at hv ⊢
  exact ⟨n1,hv.2⟩
 refine ⟨λhc=>?_,λ_=>⟨λhr=>⟨⟨⟨okG_r hg,t0,t1,(hro hr).1⟩,(hro hr).2⟩,λho=>?_,λho=>?_⟩,λhr=>?_⟩⟩
 · rw [hv,hid] at hc; cases hc
 · have hdn:(opn g (d.sd false) (mxT g)).2.dn=false:=by
    rcases opn_dn (mxT g) (okG_r hg) (rfl:(d.sd false).dn=false) with ⟨_,h'⟩ | ⟨h',_⟩
    · exact h'
    · omega
   obtain ⟨hle,hlw,hsz⟩:=opn_len g (d.sd false) (mxT g)
   have hle:(opn g (d.sd false) (mxT g)).2.by'.length=d.by'.length:=hle
   have hsz:(opn g (d.sd false) (mxT g)).2.sz=d.sz:=hsz
   rw [Dv.sd_self hdn]
   have hA:IntKind.i64.wrap (IntKind.i64.wrap (IntKind.i64.wrap (IntKind.i64.wrap (g.fi+(IntKind.i64.wrap (g.nw+1 - 1)).tmod g.se) * (opn g (d.sd false) (mxT g)).2.sz)+11)+IntKind.i64.wrap (0 * 17)) =adA (g.op (mxT g)) (opn g (d.sd false) (mxT g)).2.sz:=(adr h7 h8 h9 (by omega) (by omega) (by omega) (by omega) (by omega) (by omega) (by omega)).1
   obtain ⟨a1,a2⟩:=(adr (q:=g.nw+1 - 1) (sz:=(opn g (d.sd false) (mxT g)).2.sz) (us:=0) h7 h8 h9 (by omega) (by omega) (by omega) (by omega) (by omega) (by omega) (by omega)).2
   have hA2:adA (g.op (mxT g)) (opn g (d.sd false) (mxT g)).2.sz=(g.fi+(g.nw+1 - 1).tmod g.se) * (opn g (d.sd false) (mxT g)).2.sz+11+0 * 17:=rfl
   have hB:encE ⟨g.nx,e.t,e.g,e.st,e.sn,e.ty,e.de,e.a,e.b,e.c⟩ ++ [0] =adB (g.op (mxT g)) e:=rfl
   have hu:IntKind.i64.wrap (0+1) =0+1:=wr_in _ (by omega) (by omega)
   have hsz2:(d.wr.length:Int) * (opn g (d.sd false) (mxT g)).2.sz=d.by'.length:=by first | (rw [hsz]; omega) | omega
   have hw:(opn g (d.sd false) (mxT g)).2.wth (adA (g.op (mxT g)) (opn g (d.sd false) (mxT g)).2.sz) ((adB (g.op (mxT g)) e).length:Nat) =true:=Dv.wth_of (by rw [hA2]; omega) (by omega) (by rw [adB_len,hA2]; omega) (by omega)
   simp only [hA,hB,hu]
   refine ⟨hv2,λ_=>⟨by omega,by rw [encE_len]; omega,by rw [encE_len]; omega,⟨by rw [adB_len]; omega,by show (opn g (d.sd false) (mxT g)).2.by'.length≤1000000; omega,hw⟩,λhp=>?_,λhp=>?_⟩⟩
   · have hm:addE g (d.sd false) e=(0,(g.op (mxT g)).ad e,((opn g (d.sd false) (mxT g)).2.prog (adA (g.op (mxT g)) (opn g (d.sd false) (mxT g)).2.sz) (adB (g.op (mxT g)) e)).2):=(addE_1 (g:=g) (d:=d.sd false) e hr ho).trans (putE_t hp)
     simp only [hm,Lg.ad,rcs,List.map_append,List.map_nil,List.map_cons,List.nil_append,Rc.cs,Ev.cs,adE,op_nw,op_rs,op_fi,op_se,op_ov,op_tl,op_us,op_nx,op_fu,op_nu,op_he,nl_op,nl_fi,nl_se,nl_ov,nl_nw,nl_tl,nl_us,nl_nx,nl_rs,nl_fu,nl_nu,nl_he,and_self,true_or,forall_const]
     exact ⟨by omega,by omega,trivial⟩
   · have hm:addE g (d.sd false) e=(10,(g.op (mxT g)),((opn g (d.sd false) (mxT g)).2.prog (adA (g.op (mxT g)) (opn g (d.sd false) (mxT g)).2.sz) (adB (g.op (mxT g)) e)).2):=(addE_1 (g:=g) (d:=d.sd false) e hr ho).trans (putE_f hp)
     simp only [hm,and_self,or_true,forall_const]
 · have hm:addE g (d.sd false) e=(10,g,(opn g (d.sd false) (mxT g)).2):=addE_2 (g:=g) (d:=d.sd false) e hr ho
   simp only [hm,ho,and_self,or_true,forall_const]
 · have hus:g.nw≠0∧g.us≠slD d.sz:=by
    simp only [Bool.or_eq_false_iff,decide_eq_false_iff_not] at hr
    exact hr
   have hle:(d.sd false).by'.length=d.by'.length:=rfl
   have hsz:(d.sd false).sz=d.sz:=rfl
   have hA:IntKind.i64.wrap (IntKind.i64.wrap (IntKind.i64.wrap (IntKind.i64.wrap (g.fi+(IntKind.i64.wrap (g.nw - 1)).tmod g.se) * d.sz)+11)+IntKind.i64.wrap (g.us * 17)) =adA g d.sz:=(adr h7 h8 h9 (by omega) (by omega) (by omega) (by omega) (by omega) (by omega) (by omega)).1
   obtain ⟨a1,a2⟩:=(adr (q:=g.nw - 1) (sz:=d.sz) (us:=g.us) h7 h8 h9 (by omega) (by omega) (by omega) (by omega) (by omega) (by omega) (by omega)).2
   have hA2:adA g d.sz=(g.fi+(g.nw - 1).tmod g.se) * d.sz+11+g.us * 17:=rfl
   have hB:encE ⟨g.nx,e.t,e.g,e.st,e.sn,e.ty,e.de,e.a,e.b,e.c⟩ ++ [0] =adB g e:=rfl
   have hu:IntKind.i64.wrap (g.us+1) =g.us+1:=wr_in _ (by omega) (by omega)
   have hsz2:(d.wr.length:Int) * d.sz=d.by'.length:=by first | (rw [hsz]; omega) | omega
   have hw:(d.sd false).wth (adA g d.sz) ((adB g e).length:Nat) =true:=Dv.wth_of (by rw [hA2]; omega) (by omega) (by rw [adB_len,hA2]; omega) (by omega)
   simp only [hA,hB,hu]
   refine ⟨hv2,λ_=>⟨by omega,by rw [encE_len]; omega,by rw [encE_len]; omega,⟨by rw [adB_len]; omega,by show (d.sd false).by'.length≤1000000; omega,hw⟩,λhp=>?_,λhp=>?_⟩⟩
   · have hm:addE g (d.sd false) e=(0,g.ad e,((d.sd false).prog (adA g d.sz) (adB g e)).2):=(addE_3 (g:=g) (d:=d.sd false) e hr).trans (putE_t hp)
     simp only [hm,Lg.ad,rcs,List.map_append,List.map_nil,List.map_cons,List.nil_append,Rc.cs,Ev.cs,adE,op_nw,op_rs,op_fi,op_se,op_ov,op_tl,op_us,op_nx,op_fu,op_nu,op_he,nl_op,nl_fi,nl_se,nl_ov,nl_nw,nl_tl,nl_us,nl_nx,nl_rs,nl_fu,nl_nu,nl_he,and_self,true_or,forall_const]
     exact ⟨by omega,by omega,trivial⟩
   · have hm:addE g (d.sd false) e=(10,g,((d.sd false).prog (adA g d.sz) (adB g e)).2):=(addE_3 (g:=g) (d:=d.sd false) e hr).trans (putE_f hp)
     simp only [hm,and_self,or_true,forall_const]
def Ev.av (x:Ev):AV:= .agg [.int .u16 x.id,.int .u32 x.t,.int .u16 x.g,.int .u8 x.st,.int .u8 x.sn,.int .u8 x.ty,.bool x.de,.int .u8 x.a,.int .u8 x.b,.int .u8 x.c]
structure Ck where
 t:Int
 b:Int
 s:Bool
 deriving DecidableEq
theorem Ck.eta (c:Ck):Ck.mk c.t c.b c.s=c:=rfl
def Ck.av (c:Ck):AV:= .agg [.int .i64 c.t,.int .i64 c.b,.bool c.s]
def Ck.cs (c:Ck):List AV:=[.int .i64 c.t,.int .i64 c.b,.bool c.s]
def modI (n m:Int):Int:=if n.tmod m < 0 then W (n.tmod m+m) else n.tmod m
def CM:Ctr:= .mk false λ_ xs=>match xs with
 | [.int .i64 n,.int .i64 m]=>some (m≠0,.int .i64 (modI n m),[])
 | _=>none
structure Tn where
 se:Bool
 cu:Bool
 ti:Int
 tm:Int
 at':Int
 to:Int
def Tn.cs (x:Tn):List AV:=[.bool x.se,.bool x.cu,.int .i64 x.ti,.int .u32 x.tm,.int .i64 x.at',.int .u8 x.to]
def CFst:Ctr:= .mk false λ_ xs=>match xs with
 | []=>some (True,.bool true,[])
 | _=>none
theorem newD_dn (n s:Int):(newD n s).dn=false:=rfl
theorem modI_bd {n m:Int}(h:1≤m)(h2:m≤4611686018427387904):0≤modI n m∧modI n m < m:=by
 have h3:-m < n.tmod m:=by
  have:=Int.tmod_lt_of_pos (-n) (show 0 < m by omega)
  rw [Int.neg_tmod] at this; omega
 have h4:=Int.tmod_lt_of_pos n (show 0 < m by omega)
 simp only [modI]
 split
 · rw [show W (n.tmod m+m) =n.tmod m+m from wr_in _ (by omega) (by omega)]; omega
 · omega
def sl (d:Dv)(k i:Nat):List Int:=slot (secB d 0 k) i
def slB:List Int:=List.replicate 17 255
theorem step_lf {d:Dv}(h:d.lf=0):d.step.dn=d.dn∧d.step.lf=0:=by
 rw [Dv.step,if_neg (by omega)]
 exact ⟨rfl,h⟩
theorem prL_lf:∀ (l:List Int)(d:Dv)(k:Nat),d.lf=0→d.dn=false→(d.prL k l).1=0∧(d.prL k l).2.lf=0:=by
 intro l
 induction l with
 | nil=>intro d k h _; exact ⟨rfl,h⟩
 | cons x l ih=>
   intro d k h hd
   obtain ⟨s1,s2⟩:=step_lf h
   have hs:d.step.dn=false:=s1.trans hd
   rw [Dv.prL_f hs]
   exact ih _ _ s2 hs
theorem erase_lf {d:Dv} {s:Int}(h:d.lf=0)(hd:d.dn=false)(hs:0≤s∧s < d.wr.length):(d.erase s).1=0∧(d.erase s).2.lf=0:=by
 have e:(d.er1 s).dn=false∧(d.er1 s).lf=0:=by
  obtain ⟨s1,s2⟩:=step_lf (d:=⟨d.sz,d.by',d.wr.set s.toNat (W (d.wr.getD s.toNat 0+1)),d.st,d.lf,d.to,d.dn⟩) h
  exact ⟨s1.trans hd,s2⟩
 rw [Dv.erase,if_neg (by rw [hd]; decide),if_neg (by omega),e.1]
 exact ⟨rfl,e.2⟩
def Un (d:Dv):Prop:=d.lf=0∧d.dn=false
theorem un_prog {d:Dv}(h:Un d)(a:Int)(l:List Int):(d.prog a l).1≠10∧Un (d.prog a l).2:=by
 rw [Dv.prog,if_neg (by rw [h.2]; decide)]
 split
 · obtain ⟨a1,a2⟩:=prL_lf l d a.toNat h.1 h.2
   refine ⟨by omega,a2,?_⟩
   rcases Dv.prL_dn l d a.toNat h.2 with ⟨_,x⟩ | ⟨x,_⟩
   · exact x
   · omega
 · exact ⟨by simp,h⟩
theorem un_erase {d:Dv}(h:Un d)(s:Int):(d.erase s).1≠10∧Un (d.erase s).2:=by
 by_cases hs:s < 0∨(d.wr.length:Int)≤s
 · rw [Dv.erase,if_neg (by rw [h.2]; decide),if_pos hs]
   exact ⟨by simp,h⟩
 · obtain ⟨a1,a2⟩:=erase_lf (s:=s) h.1 h.2 (by omega)
   refine ⟨by omega,a2,?_⟩
   rcases Dv.erase_dn (s:=s) h.2 (by omega) with ⟨_,x⟩ | ⟨x,_⟩
   · exact x
   · omega
theorem un_op2 {d:Dv}(h:Un d)(g:Lg)(z t:Int):(op2 g z t d).1≠10∧Un (op2 g z t d).2:=by
 unfold op2
 split
 · exact un_prog (un_prog h _ _).2 _ _
 · exact un_prog h _ _
theorem un_opn {d:Dv}(h:Un d)(g:Lg)(t:Int):(opn g d t).1≠10∧Un (opn g d t).2:=by
 unfold opn
 split
 · split
   · exact un_op2 (un_erase h _).2 _ _ _
   · exact un_erase h _
 · exact un_op2 h _ _ _
theorem un_put {d:Dv}(h:Un d)(g:Lg)(e:Ev):(putE g d e).1≠10∧Un (putE g d e).2.2:=by
 unfold putE
 split
 · exact ⟨by simp,(un_prog h _ _).2⟩
 · exact un_prog h _ _
theorem un_add {d:Dv}(h:Un d)(g:Lg)(e:Ev):(addE g d e).1≠10∧Un (addE g d e).2.2:=by
 unfold addE
 split
 · split
   · exact un_put (un_opn h _ _).2 _ _
   · exact un_opn h _ _
 · exact un_put h _ _
def s1:Se:=⟨1,1,0,[116],0,0,false,1,false,1,0,0,0,.nil,8,0,0,0,80,0,0,0,0,0,8,0,false,1⟩
theorem seD_s1:seD [.int .u8 1,.int .u8 1,.int .u8 0,.str [116],.int .u8 0,.int .u8 0,.bool false,.int .i64 1,.bool false,.int .i64 1,.int .i64 0,.int .i64 0,.int .i64 0,.nil,.int .u8 8,.int .u8 0,.int .u8 0,.int .u8 0,.int .u8 80,.int .u8 0,.int .u8 0,.int .u8 0,.int .u8 0,.int .u16 0,.int .u16 8,.int .u16 0,.bool false,.int .i64 1] =s1:=rfl
theorem ok_s1:OkS s1:=by
 refine ⟨⟨?_,by decide,by decide⟩,.inl rfl,rfl,.inl ⟨by decide,by decide,by decide,by decide,by decide,rfl⟩,by decide,by decide,rfl,by decide,?_,?_,?_,by decide,?_,by decide,by decide⟩
 · intro i hi
   match i,hi with
   | 0,_=>exact (by decide)
   | i+1,hi=>exact absurd hi (by simp [s1])
 · intro k hk
   match k,hk with
   | 0,_=>exact (by decide)
   | 1,_=>exact (by decide)
   | 2,_=>exact (by decide)
   | 3,_=>exact (by decide)
   | 4,_=>exact (by decide)
   | 5,_=>exact (by decide)
 · have e:lows s1= []:=by decide
   rw [e]
   exact λi hi=>absurd hi (by simp)
 · have e:ups s1= [80]:=by decide
   rw [e]
   exact λi hi=>absurd hi (by simp)
 · intro k
   match k with
   | 0=>exact (by decide)
   | 1=>exact (by decide)
   | 2=>exact (by decide)
   | 3=>exact (by decide)
   | 4=>exact (by decide)
   | 5=>exact (by decide)
   | k+6=>exact ⟨Int.le_refl _,by show (0:Int)≤255; decide⟩
theorem okM_s1:okM s1 .nil 0 0:=⟨ok_s1,.inl rfl,⟨by decide,by decide,by decide,.inl (by decide)⟩,λx hx=>(by cases hx),by decide⟩
theorem SP_one (sg:Bool)(x:Int):SP sg [x] [x]:=⟨List.Perm.refl _,λa b hab hb=>absurd hb (by simp; omega)⟩
theorem rd_s1:rdV s1 [80] =80∧rdK s1 [80] =true:=by
 refine ⟨?_,by decide⟩
 have h:(([80]:List Int).length:Int) =s1.sa:=rfl
 unfold rdV
 rw [if_pos h,med_eq (λx hx=>by rw [List.mem_singleton.1 hx]; decide) (SP_one _ _)]
 rfl
theorem sc_s1:scE s1 (stW s1 [] 80 true 0) 0= [⟨0,0,32,1,1,1,false,87,80,80⟩]:=by
 have hW:stW s1 [] 80 true 0= [80]:=by decide
 have hT:mT s1 [80] 0=8:=by
  unfold mT
  rw [rd_s1.1]
  decide
 have hC:mC s1 [80] 0= [⟨3,true⟩]:=by
  unfold mC
  rw [if_pos rd_s1.2,hT]
  rfl
 rw [scE,hW,hC,rd_s1.1]
 rfl
theorem og_new2:opG (newD 2 64) 0 2 false= ⟨0,2,false,0,0,0,1,[],false,0,false⟩:=by
 have h:nwF (newD 2 64) 0 2 (2:Int).toNat=(0,0):=by decide
 rw [opG,h]
 show lqF (newD 2 64) 0 2 false 0=_
 rw [lqF,lqB,h]
theorem okO_new2:okO (newD 2 64) 0 2:=⟨⟨by decide,by decide,by decide,by decide,by decide⟩,by decide,by decide,by decide,by decide⟩
theorem put_nx {g:Lg} {d:Dv} {e:Ev}(h:(putE g d e).1=0):(putE g d e).2.1.rs.length=g.rs.length+1:=by
 unfold putE at h ⊢
 split at h
 · rename_i hc
   rw [if_pos hc]
   show (g.rs ++ [_]).length=_
   rw [List.length_append]; rfl
 · rename_i hc; exact absurd h hc
theorem add_nx {g:Lg} {d:Dv} {e:Ev}(h:(addE g d e).1=0):(addE g d e).2.1.rs.length=g.rs.length+1:=by
 unfold addE at h ⊢
 split at h
 · rename_i h1
   rw [if_pos h1]
   split at h
   · rename_i h2
     rw [if_pos h2]
     exact put_nx h
   · rename_i h2; exact absurd h h2
 · rename_i h1
   rw [if_neg h1]
   exact put_nx h
theorem walk6 (P11:Phi 11=some CNewM)(P12:Phi 12=some CScn)(P17:Phi 17=some CNewD)(P18:Phi 18=some COpen)(P23:Phi 23=some CLen)(P24:Phi 24=some CAdd)  :evC Phi (noI) rc6 ⟨initS [],initM false []⟩ (kRet rv6 (.bool true) false []):=by
 simp (maxSteps:=2000000) only [rc6,pk,un,rv6,Nat.reduceAdd,Nat.reduceLeDiff,↓reduceIte,Nat.reduceEqDiff,Nat.reduceLT,P11,CNewM,Se.cs,seD_s1,↓Qi0,Nat.reduceMul,Nat.reduceBEq,P17,CNewD,Dv.cs,newD_dn,Int.reduceEq,Bool.cond_false,P18,COpen,Dv.gr,Dv.sd_sz,Dv.sd_st,Dv.sd_lf,Dv.sd_to,Dv.sd_dn,Dv.sd_by,Dv.sd_wr,Lg.co,Dv.de_gr,Qh0,Qg0,Dv.sd_mk,Option.isSome_some,P12,CScn,grM,gsM,gwM,gmM,gtM,byt,Int.reduceLE,wOf_n,sc_s1,evs_len,Int.reduceToNat,getE_ev,Ev.cs,P24,CAdd,grA,Lg.cs,grD,dead,deG_R,decR_rcs,Lg.eta,deD_R,Dv.sd_sd,↓Bool.forall_bool,eno_f,Bool.cond_true,P23,CLen,rcs_len,eno_t]
 have e:(newD 2 64).sd false=newD 2 64:=rfl
 rw [e,og_new2]
 have hU:Un (newD 2 64):=⟨rfl,rfl⟩
 have hA:okA ⟨0,2,false,0,0,0,1,[],false,0,false⟩ (newD 2 64) ⟨0,0,32,1,1,1,false,87,80,80⟩:=
  ⟨⟨okO_new2.1,by decide,by decide,by decide,by decide,by decide,by decide,by decide⟩,by decide,by decide,by decide,by decide,by decide,by decide,by decide,rfl,λ_=>⟨by decide,λr hr=>(by cases hr)⟩⟩
 refine ⟨⟨rfl,ok_s1⟩,.inl trivial,okO_new2,⟨rfl,rfl,rfl,okM_s1⟩,λh=>absurd h (by decide),λ_=>⟨by decide,hA,λh=>?_,λh=>absurd h (un_add hU _ _).1⟩⟩
 rw [add_nx h]
 rfl
def nxV (L:List Int)(a n:Int):Int:=if (L.length:Int)≤a then 0 else modI (L.getD a.toNat 0) n
def nxA (L:List Int)(a:Int):Int:=if (L.length:Int)≤a then a else a+1
theorem nxV_bd (L:List Int)(a:Int) {n:Int}(h1:1≤n)(h2:n≤4611686018427387904):0≤nxV L a n∧nxV L a n < n:=by
 unfold nxV
 split
 · omega
 · exact modI_bd h1 h2
theorem nxA_bd {L:List Int} {a:Int}(h:0≤a):0≤nxA L a:=by unfold nxA; split<;>omega
def KNx:Ctr:= .mk true λcs xs=>match cs,xs with
 | [.lst zz es,.int .i64 a],[.int .i64 n]=>some ((((zz= [.int .i64 0]∧es=i64s (decU es))∧es.length≤600)∧0≤a)∧1≤n∧n≤4611686018427387904,.int .i64 (nxV (decU es) a n),[.lst zz es,.int .i64 (nxA (decU es) a)])
 | _,_=>none
def KBo:Ctr:= .mk true λcs xs=>match cs,xs with
 | [.lst zz es,.int .i64 a],[.int .i64 n]=>some ((((zz= [.int .i64 0]∧es=i64s (decU es))∧es.length≤600)∧0≤a)∧1≤n∧n≤4611686018427387904,.bool (decide (nxV (decU es) a n=n - 1)),[.lst zz es,.int .i64 (nxA (decU es) a)])
 | _,_=>none
def lim8:List Int:=[0,1,127,128,254,255,15,240]
def yV (L:List Int)(a:Int):Int:=if nxV L a 3=2 then lim8.getD (nxV L (nxA L a) 8).toNat 0 else nxV L (nxA L a) 256
def KBy:Ctr:= .mk true λcs xs=>match cs,xs with
 | [.lst zz es,.int .i64 a],[]=>some ((((zz= [.int .i64 0]∧es=i64s (decU es))∧es.length≤600)∧0≤a),.int .u8 (yV (decU es) a),[.lst zz es,.int .i64 (nxA (decU es) (nxA (decU es) a))])
 | _,_=>none
def limM:List Int:=[0,1,-1,1000000,-1000000,1000000000000,-1000000000000,500000]
def mcV (L:List Int)(a:Int):Int:=if nxV L a 3=0 then limM.getD (nxV L (nxA L a) 8).toNat 0 else if nxV L a 3=1 then nxV L (nxA L a) 2000001 - 1000000 else (nxV L (nxA L a) 2000001 - 1000000) * 1000 * (1+nxV L (nxA L (nxA L a)) 1000)
def mcA (L:List Int)(a:Int):Int:=if nxV L a 3=0∨nxV L a 3=1 then nxA L (nxA L a) else nxA L (nxA L (nxA L a))
def KMi:Ctr:= .mk true λcs xs=>match cs,xs with
 | [.lst zz es,.int .i64 a],[]=>some ((((zz= [.int .i64 0]∧es=i64s (decU es))∧es.length≤600)∧0≤a),.int .i64 (mcV (decU es) a),[.lst zz es,.int .i64 (mcA (decU es) a)])
 | _,_=>none
def KEn:Ctr:= .mk true λcs xs=>match cs,xs with
 | [.lst zz es,.int .i64 a],[]=>some ((((zz= [.int .i64 0]∧es=i64s (decU es))∧es.length≤600)∧0≤a),.agg [.int .u8 (1+nxV (decU es) a 4),.int .u8 (nxV (decU es) (nxA (decU es) a) 2)],[.lst zz es,.int .i64 (nxA (decU es) (nxA (decU es) a))])
 | _,_=>none
def KLe:Ctr:= .mk false λ_ xs=>match xs with
 | [.bool sg]=>some (True,.int .i64 (if sg then -128 else 0),[])
 | _=>none
def KRw:Ctr:= .mk false λ_ xs=>match xs with
 | [.int .i64 x]=>some (-256≤x∧x≤100000,.int .u8 ((x+256).tmod 256),[])
 | _=>none
def KHas:Ctr:= .mk false λ_ xs=>match xs with
 | [.int .u16 m,.int .i64 k]=>some (0≤m∧m≤65535∧0≤k∧k≤15,.bool (decide ((m.fdiv (2 ^ k.toNat)).tmod 2=1)),[])
 | _=>none
def KLig:Ctr:= .mk false λ_ xs=>match xs with
 | [.lst zz es]=>some (True,.bool (decide ((es.length:Int)≤600)),[])
 | _=>none
def KRol:Ctr:= .ext false Unit λ_ xs=>match xs with
 | [.lst zz es]=>some ((zz= [.int .i64 0]∧es=i64s (decU es)),λ_=>(True,.fp 0 [.lst [.int .i64 0] (i64s (decU es)),.int .i64 0],[]))
 | _=>none
theorem at8 (q:IntKind)(c0 c1 c2 c3 c4 c5 c6 c7:Int)(k:Nat):[AV.int q c0,AV.int q c1,AV.int q c2,AV.int q c3,AV.int q c4,AV.int q c5,AV.int q c6,AV.int q c7][if k < 8 then k else 0]? =some (AV.int q ([c0,c1,c2,c3,c4,c5,c6,c7].getD (if k < 8 then k else 0) 0)):=by
 match k with
 | 0=>rfl
 | 1=>rfl
 | 2=>rfl
 | 3=>rfl
 | 4=>rfl
 | 5=>rfl
 | 6=>rfl
 | 7=>rfl
 | k+8=>rw [if_neg (by omega)]; rfl
theorem walk61 (P16:Phi 16=some CM)(L:List Int)(a:Int)(hl:L.length≤600)(ha:0≤a)(n:Int)(h1:1≤n)(h2:n≤4611686018427387904):evC Phi (noI) rc61 ⟨initS (.ptr 0 0::[Ii n]),initM true [.lst [Ii 0] (i64s L),Ii a]⟩ (kRet rv61 (Ii (nxV L a n)) true [.lst [Ii 0] (i64s L),Ii (nxA L a)]):=by
 simp (maxSteps:=2000000) only [rc61,pk,un,rv61,Nat.reduceEqDiff,↓reduceIte,Nat.reduceAdd,Nat.reduceLeDiff,Nat.reduceMul,P16,CM,Nat.reduceBEq]
 refine λhl2=>⟨λhc=>?_,λhc=>?_⟩
 · have hc:=of_decide_eq_true hc
   unfold nxV nxA
   rw [if_pos hc,if_pos hc]
   exact ⟨rfl,rfl⟩
 · have hc:=of_decide_eq_false hc
   have e1:IntKind.i64.wrap (a+1) =a+1:=wr_in _ (by omega) (by omega)
   have e2:IntKind.i64.wrap (a+1 - 1) =a:=by rw [show a+1 - 1=a by omega]; exact wr_in _ (by omega) (by omega)
   unfold nxV nxA
   rw [if_neg hc,if_neg hc,e1,e2]
   exact ⟨⟨ha,by omega⟩,by omega,λ_=>⟨rfl,rfl⟩⟩
theorem walk65 (P61:Phi 61=some KNx)(L:List Int)(a:Int)(hl:L.length≤600)(ha:0≤a)(n:Int)(h1:1≤n)(h2:n≤4611686018427387904):evC Phi (noI) rc65 ⟨initS (.ptr 0 0::[Ii n]),initM true [.lst [Ii 0] (i64s L),Ii a]⟩ (kRet rv65 (.bool (decide (nxV L a n=n - 1))) true [.lst [Ii 0] (i64s L),Ii (nxA L a)]):=by
 simp (maxSteps:=2000000) only [rc65,pk,un,rv65,Nat.reduceEqDiff,↓reduceIte,P61,KNx,Qg0,Nat.reduceAdd]
 refine ⟨⟨⟨hl,ha⟩,h1,h2⟩,?_⟩
 rw [wr_in _ (by omega) (by omega)]
theorem walk62 (P61:Phi 61=some KNx)(P65:Phi 65=some KBo)(L:List Int)(a:Int)(hl:L.length≤600)(ha:0≤a):evC Phi (noI) rc62 ⟨initS (.ptr 0 0::[]),initM true [.lst [Ii 0] (i64s L),Ii a]⟩ (kRet rv62 (U (yV L a)) true [.lst [Ii 0] (i64s L),Ii (nxA L (nxA L a))]):=by
 simp (maxSteps:=2000000) only [rc62,pk,un,rv62,Nat.reduceAdd,Nat.reduceLeDiff,↓reduceIte,Nat.reduceMul,Nat.reduceEqDiff,P65,KBo,Qg0,Int.reduceLE,P61,KNx,sel,at8]
 have a1:=nxA_bd (L:=L) ha
 have b8:=nxV_bd L (nxA L a) (n:=8) (by decide) (by decide)
 have b256:=nxV_bd L (nxA L a) (n:=256) (by decide) (by decide)
 refine ⟨⟨hl,ha⟩,λhc=>?_,λhc=>?_⟩
 · have hc:=of_decide_eq_true hc
   refine ⟨⟨hl,a1⟩,⟨b8.1,b8.2⟩,?_⟩
   rw [if_pos (by omega)]
   unfold yV
   rw [if_pos (by omega)]
   rfl
 · have hc:=of_decide_eq_false hc
   refine ⟨⟨hl,a1⟩,?_⟩
   unfold yV
   rw [if_neg (by omega),wr_u8 _ (by omega) (by omega)]
theorem walk97 (P61:Phi 61=some KNx)(L:List Int)(a:Int)(hl:L.length≤600)(ha:0≤a):evC Phi (noI) rc97 ⟨initS (.ptr 0 0::[]),initM true [.lst [Ii 0] (i64s L),Ii a]⟩ (kRet rv97 (Ii (mcV L a)) true [.lst [Ii 0] (i64s L),Ii (mcA L a)]):=by
 simp (maxSteps:=2000000) only [rc97,pk,un,rv97,Nat.reduceAdd,Nat.reduceLeDiff,↓reduceIte,Nat.reduceMul,Nat.reduceEqDiff,P61,KNx,Qg0,Int.reduceLE,sel,at8]
 have a1:=nxA_bd (L:=L) ha
 have a2:=nxA_bd (L:=L) a1
 have b8:=nxV_bd L (nxA L a) (n:=8) (by decide) (by decide)
 have bm:=nxV_bd L (nxA L a) (n:=2000001) (by decide) (by decide)
 have bk:=nxV_bd L (nxA L (nxA L a)) (n:=1000) (by decide) (by decide)
 refine ⟨⟨hl,ha⟩,λhc=>?_,λhc=>⟨λhd=>?_,λhd=>?_⟩⟩
 · have hc:=of_decide_eq_true hc
   refine ⟨⟨hl,a1⟩,⟨b8.1,b8.2⟩,?_⟩
   unfold mcV mcA
   rw [if_pos (by omega),if_pos hc,if_pos (.inl hc)]
   exact ⟨rfl,rfl⟩
 · have hc:=of_decide_eq_false hc
   have hd:=of_decide_eq_true hd
   refine ⟨⟨hl,a1⟩,?_⟩
   unfold mcV mcA
   rw [if_neg hc,if_pos hd,if_pos (.inr hd),wr_in _ (by omega) (by omega)]
   exact ⟨rfl,rfl⟩
 · have hc:=of_decide_eq_false hc
   have hd:=of_decide_eq_false hd
   refine ⟨⟨hl,a1⟩,⟨hl,a2⟩,?_⟩
   unfold mcV mcA
   rw [if_neg hc,if_neg hd,if_neg (by omega),wr_in (nxV L (nxA L a) 2000001 - 1000000) (by omega) (by omega)]
   have hx:-1000000≤nxV L (nxA L a) 2000001 - 1000000∧nxV L (nxA L a) 2000001 - 1000000≤1000000:=by omega
   generalize nxV L (nxA L a) 2000001 - 1000000=x at *
   generalize nxV L (nxA L (nxA L a)) 1000=y at *
   rw [wr_in (x * 1000) (by omega) (by omega),wr_in (1+y) (by omega) (by omega)]
   have h1:x * 1000 * (1+y)≤1000000000 * 1000:=by
    have h0:(1000000000 - x * 1000) * (1+y)≥0:=Int.mul_nonneg (by omega) (by omega)
    rw [Int.sub_mul] at h0; omega
   have h2:-(1000000000 * 1000)≤x * 1000 * (1+y):=by
    have h0:(1000000000+x * 1000) * (1+y)≥0:=Int.mul_nonneg (by omega) (by omega)
    rw [Int.add_mul] at h0; omega
   rw [wr_in _ (by omega) (by omega)]
   exact ⟨rfl,rfl⟩
theorem walk64 (P61:Phi 61=some KNx)(L:List Int)(a:Int)(hl:L.length≤600)(ha:0≤a):evC Phi (noI) rc64 ⟨initS (.ptr 0 0::[]),initM true [.lst [Ii 0] (i64s L),Ii a]⟩ (kRet rv64 (.agg [U (1+nxV L a 4),U (nxV L (nxA L a) 2)]) true [.lst [Ii 0] (i64s L),Ii (nxA L (nxA L a))]):=by
 simp (maxSteps:=2000000) only [rc64,pk,un,rv64,Nat.reduceMul,Nat.reduceAdd,Nat.reduceEqDiff,↓reduceIte,P61,KNx,Qg0,Int.reduceLE,Nat.reduceLeDiff]
 have a1:=nxA_bd (L:=L) ha
 have b4:=nxV_bd L a (n:=4) (by decide) (by decide)
 have b2:=nxV_bd L (nxA L a) (n:=2) (by decide) (by decide)
 refine ⟨⟨hl,ha⟩,⟨hl,a1⟩,?_⟩
 rw [wr_in _ (by omega) (by omega),wr_u8 _ (by omega) (by omega),wr_u8 _ (by omega) (by omega)]
 exact ⟨rfl,rfl⟩
theorem walk95 (sg:Bool):evC Phi (noI) rc95 ⟨initS [.bool sg],initM false []⟩ (kRet rv95 (Ii (if sg then -128 else 0)) false []):=by
 simp (maxSteps:=2000000) only [rc95,pk,un,rv95,Nat.reduceEqDiff,↓reduceIte]
 exact ⟨λh=>by rw [if_pos h],λh=>by rw [h]; rfl⟩
theorem walk96 (x:Int)(h:-256≤x∧x≤100000):evC Phi (noI) rc96 ⟨initS [Ii x],initM false []⟩ (kRet rv96 (U ((x+256).tmod 256)) false []):=by
 simp (maxSteps:=2000000) only [rc96,pk,un,rv96,Nat.reduceEqDiff,↓reduceIte]
 refine ⟨by decide,?_⟩
 have h0:0≤(x+256).tmod 256:=Int.tmod_nonneg _ (by omega)
 have h1:(x+256).tmod 256 < 256:=Int.tmod_lt_of_pos _ (by omega)
 rw [wr_in _ (by omega) (by omega),wr_u8 _ (by omega) (by omega)]
theorem walk98 (m k:Int)(h:0≤m∧m≤65535∧0≤k∧k≤15):evC Phi (noI) rc98 ⟨initS [.int .u16 m,Ii k],initM false []⟩ (kRet rv98 (.bool (decide ((m.fdiv (2 ^ k.toNat)).tmod 2=1))) false []):=by
 simp (maxSteps:=2000000) only [rc98,pk,un,rv98,Nat.reduceEqDiff,↓reduceIte]
 have e:IntKind.u64.wrap k=k:=by rw [IntKind.wrap_u64]; omega
 have e2:min k.toNat 16=k.toNat:=by omega
 rw [e,e2]
 exact ⟨h.2.2.1,by decide,rfl⟩
theorem walk7 (zz:List AV)(es:List (List AV)):evC Phi (noI) rc7 ⟨initS [.lst zz es],initM false []⟩ (kRet rv7 (.bool (decide ((es.length:Int)≤600))) false []):=by
 simp (maxSteps:=2000000) only [rc7,pk,un,rv7,Nat.reduceEqDiff,↓reduceIte]
theorem walk8 (L:List Int):evC Phi (noI) rc8 ⟨initS [.lst [.int .i64 0] (i64s L)],initM false []⟩ (kRetX rv8 false (λ_ :Unit=>(True,.fp 0 [.lst [.int .i64 0] (i64s L),.int .i64 0],[]))):=by
 simp (maxSteps:=2000000) only [rc8,pk,un,rv8,Nat.reduceEqDiff,↓reduceIte,Nat.reduceAdd,Nat.reduceLeDiff,Nat.reduceMul,↓Qj0,Nat.reduceLT]
def KTx:Ctr:= .ext true (List UInt8×Int) λcs xs=>match cs,xs with
 | [.lst zz es,.int .i64 a],[.str al,.int .i64 n]=>some (((((zz= [.int .i64 0]∧es=i64s (decU es))∧es.length≤600)∧0≤a)∧1≤al.length∧al.length≤1000)∧0≤n∧n≤1000,λi=>((i.1.length:Int) =n∧(∀ x∈i.1,x∈al)∧0≤i.2,.str i.1,[.lst zz es,.int .i64 i.2]))
 | _,_=>none
inductive PtV where
 | nil
 | lst (l:List Pt)
def PtV.av:PtV→AV
 | .nil=> .nil
 | .lst l=> .lst [.int .u8 0,.int .i64 0] (pts l)
theorem PtV.av_lst (l:List Pt):(PtV.lst l).av= .lst [.int .u8 0,.int .i64 0] (pts l):=rfl
theorem PtV.nl (p:PtV):NL p.av:=by
 cases p
 · exact .nil
 · exact .lst _ _
abbrev pv_k0 (p:PtV):=NL.k0 (PtV.nl p)
abbrev pv_c0 (p:PtV):=NL.c0 (PtV.nl p)
abbrev pv_la (p:PtV):=NL.la (PtV.nl p)
abbrev pv_v0 (p:PtV):=NL.v0 (PtV.nl p)
theorem pv_frs (p:PtV):frs0 p.av= []:=by cases p<;>rfl
theorem pv_unf (p:PtV)(d:Nat):unfr0 d p.av=p.av:=by cases p<;>rfl
theorem pv_wf (p:PtV):wfX0 p.av=true:=by cases p<;>rfl
theorem pv_pq (p:PtV)(x:AV):pq0 x p.av= []:=by cases p<;>cases x<;>rfl
theorem pv_lex (p:PtV)(m:Nat→Option Blk)(x:AV):leX0 m x p.av=leA x p.av:=by cases p<;>cases x<;>rfl
theorem pv_lk (p:PtV)(y:AV):lk0 p.av y= []:=by cases p<;>cases y<;>rfl
def KCv:Ctr:= .ext true (Cv×PtV×Int) λcs xs=>match cs,xs with
 | [.lst zz es,.int .i64 a],[]=>some ((((zz= [.int .i64 0]∧es=i64s (decU es))∧es.length≤600)∧0≤a),λi=>(okCv ⟨i.1.fo,i.1.sg,i.1.m,i.1.b,i.1.k1,i.1.k2,i.2.1.av⟩∧0≤i.2.2,.agg [.int .i64 i.1.fo,.bool i.1.sg,.int .i64 i.1.m,.int .i64 i.1.b,.int .i64 i.1.k1,.int .i64 i.1.k2,i.2.1.av],[.lst zz es,.int .i64 i.2.2]))
 | _,_=>none
theorem mcA_bd {L:List Int} {a:Int}(h:0≤a):0≤mcA L a:=by unfold mcA; split<;>exact nxA_bd (by first | exact nxA_bd (nxA_bd h) | exact nxA_bd h)
theorem limM_bd (k:Nat):-1000000000000≤limM.getD k 0∧limM.getD k 0≤1000000000000:=by
 match k with
 | 0=>decide
 | 1=>decide
 | 2=>decide
 | 3=>decide
 | 4=>decide
 | 5=>decide
 | 6=>decide
 | 7=>decide
 | k+8=>exact ⟨by show (-1000000000000:Int)≤0; decide,by show (0:Int)≤1000000000000; decide⟩
theorem mcV_bd {L:List Int} {a:Int}(h:0≤a):-1000000000000≤mcV L a∧mcV L a≤1000000000000:=by
 have bm:=nxV_bd L (nxA L a) (n:=2000001) (by decide) (by decide)
 have bk:=nxV_bd L (nxA L (nxA L a)) (n:=1000) (by decide) (by decide)
 unfold mcV
 split
 · exact limM_bd _
 · split
   · omega
   · have hx:-1000000≤nxV L (nxA L a) 2000001 - 1000000∧nxV L (nxA L a) 2000001 - 1000000≤1000000:=by omega
     generalize nxV L (nxA L a) 2000001 - 1000000=x at *
     generalize nxV L (nxA L (nxA L a)) 1000=y at *
     constructor
     · have h0:(1000000000+x * 1000) * (1+y)≥0:=Int.mul_nonneg (by omega) (by omega)
       rw [Int.add_mul] at h0; omega
     · have h0:(1000000000 - x * 1000) * (1+y)≥0:=Int.mul_nonneg (by omega) (by omega)
       rw [Int.sub_mul] at h0; omega
theorem fac_nx (L:List Int)(a:Int) {n c:Int}(h1:1≤n)(h2:n≤1024)(h3:n - 1 - c≤511)(h4:0≤c)(h5:c≤512):fac (IntKind.i64.wrap (nxV L a n - c)) =true:=by
 have b:=nxV_bd L a h1 (by omega)
 rw [wr_in _ (by omega) (by omega)]
 unfold fac
 rw [Bool.and_eq_true]
 exact ⟨decide_eq_true (by omega),decide_eq_true (by omega)⟩
theorem pow_nx (L:List Int)(a:Int):pow' (IntKind.i64.wrap (nxV L a 7 - 3)) =true:=by
 have b:=nxV_bd L a (n:=7) (by decide) (by decide)
 rw [wr_in _ (by omega) (by omega)]
 unfold pow'
 rw [Bool.and_eq_true]
 exact ⟨decide_eq_true (by omega),decide_eq_true (by omega)⟩
theorem num_raw (sg:Bool) {x:Int}(h1:(if sg then -128 else 0)≤x)(h2:x≤(if sg then -128 else 0)+255):num sg ((x+256).tmod 256) =x∧0≤(x+256).tmod 256∧(x+256).tmod 256≤255:=by
 cases sg
 · have h1:0≤x:=h1
   have h2:x≤0+255:=h2
   have e:(x+256).tmod 256=x:=by rw [Int.tmod_eq_emod_of_nonneg (by omega)]; omega
   rw [e]
   exact ⟨wr_in _ (by omega) (by omega),by omega,by omega⟩
 · have h1:-128≤x:=h1
   have h2:x≤-128+255:=h2
   have e:(x+256).tmod 256=(x+256) % 256:=Int.tmod_eq_emod_of_nonneg (by omega)
   rw [e]
   refine ⟨?_,by omega,by omega⟩
   show W (IntKind.i8.wrap ((x+256) % 256)) =x
   rw [wrap_i8]
   have e2:(if 128≤(x+256) % 256 % 256 then (x+256) % 256 % 256 - 256 else (x+256) % 256 % 256) =x:=by split<;>omega
   rw [e2]
   exact wr_in _ (by omega) (by omega)
theorem getD_one {α:Type}(l:List α)(p d:α)(k:Nat):(l ++ [p]).getD k d=if k < l.length then l.getD k d else if k=l.length then p else d:=by
 rw [List.getD_eq_getElem?_getD,List.getD_eq_getElem?_getD]
 split
 · rename_i h; rw [List.getElem?_append_left h]
 · rename_i h
   rw [List.getElem?_append_right (by omega)]
   split
   · rename_i h2; rw [h2,Nat.sub_self]; rfl
   · rw [List.getElem?_eq_none (by simp; omega)]; rfl
structure K63a (L:List Int)(al:List UInt8)(nn:Int) where
 a:Int
 i:Nat
 s:List UInt8
 ha:0≤a
 hi:(i:Int)≤nn
 hs:s.length=i
 hm:∀ x∈s,x∈al
def S63a (L:List Int)(al:List UInt8)(nn:Int)(p:K63a L al nn):SL:=⟨[(0,.ptr 0 0),(1,.str al),(2,Ii nn),(7,.str p.s),(8,Ii p.i)],[(0,.cells [.lst [Ii 0] (i64s L),Ii p.a])]⟩
abbrev L63a (L:List Int)(al:List UInt8)(nn:Int):LI:=⟨K63a L al nn,S63a L al nn,λp=>nn.toNat - p.i,λp q=>True⟩
theorem L63aS (L:List Int)(al:List UInt8)(nn:Int):(L63a L al nn).S=S63a L al nn:=rfl
theorem L63aR (L:List Int)(al:List UInt8)(nn:Int)(p q:K63a L al nn):(L63a L al nn).R p q=(True):=rfl
def I63 (L:List Int)(al:List UInt8)(nn:Int):Nat→LI:=λn=>L63a L al nn
theorem I63_0 (L:List Int)(al:List UInt8)(nn:Int):I63 L al nn 0=L63a L al nn:=rfl
theorem walk63 (P61:Phi 61=some KNx)(L:List Int)(a:Int)(hl:L.length≤600)(ha:0≤a)(al:List UInt8)(nn:Int)(h1:1≤al.length)(h2:al.length≤1000)(hn:0≤nn)(hn2:nn≤1000):evC Phi (I63 L al nn) rc63 ⟨initS (.ptr 0 0::[.str al,.int .i64 nn]),initM true [.lst [.int .i64 0] (i64s L),.int .i64 a]⟩ (kRetX rv63 true (λi:List UInt8×Int=>((i.1.length:Int) =nn∧(∀ x∈i.1,x∈al)∧0≤i.2,.str i.1,[.lst [.int .i64 0] (i64s L),.int .i64 i.2]))):=by
 simp (maxSteps:=2000000) only [rc63,pk,un,rv63,I63_0,L63aS,S63a,Nat.reduceEqDiff,↓reduceIte,Nat.reduceAdd,L63aR,P61,KNx,Qg0]
 refine ⟨⟨a,0,[],ha,hn,rfl,λx hx=>by cases hx⟩,⟨⟨rfl,rfl⟩,rfl⟩,?_⟩
 rintro ⟨a,i,s,ha,hi,hs,hm⟩
 dsimp only
 refine ⟨λhc=>?_,λhc=>?_⟩
 · have hc:=of_decide_eq_true hc
   have b:=nxV_bd L a (n:=(al.length:Int)) (by omega) (by omega)
   have a1:=nxA_bd (L:=L) ha
   rw [wr_in (nxV L a al.length+1) (by omega) (by omega),show (nxV L a al.length+1).toNat - (nxV L a al.length).toNat=1 by omega]
   have hk:(nxV L a al.length).toNat < al.length:=by omega
   generalize hv:(nxV L a al.length).toNat=k at hk ⊢
   have hl1:(List.take 1 (List.drop k al)).length=1:=by rw [List.length_take,List.length_drop]; omega
   refine ⟨⟨⟨hl,ha⟩,by omega,by omega⟩,⟨b.1,by omega,by omega⟩,by rw [hl1]; omega,⟨nxA L a,i+1,s ++ List.take 1 (List.drop k al),a1,by omega,by rw [List.length_append,hl1]; omega,?_⟩,⟨⟨rfl,?_⟩,rfl⟩,by dsimp only; omega⟩
   · intro x hx
     rcases List.mem_append.1 hx with hx | hx
     · exact hm x hx
     · exact List.mem_of_mem_drop (List.mem_of_mem_take hx)
   · rw [wr_succ _ (by omega)]
 · have hc:=of_decide_eq_false hc
   exact ⟨(s,a),⟨by dsimp only; omega,hm,ha⟩,rfl,rfl⟩
structure K66a (L:List Int)(sg:Bool)(nn:Int) where
 a:Int
 i:Nat
 x:Int
 l:List Pt
 ha:0≤a
 hi:(i:Int)≤nn
 hl:l.length=i
 hx:(if sg then -128 else 0)+(i:Int)≤x∧x≤(if sg then -128 else 0)+39+18 * (i:Int)
 hp:∀ k,k < l.length→-1000000000000≤(l.getD k pt0).v∧(l.getD k pt0).v≤1000000000000
 ho:∀ k,k < l.length→num sg (l.getD k pt0).r < x
 hs:∀ k,k+1 < l.length→num sg (l.getD k pt0).r < num sg (l.getD (k+1) pt0).r
def S66a (L:List Int)(sg:Bool)(nn:Int)(p:K66a L sg nn):SL:=⟨[(0,.ptr 0 0),(2,.ptr 192 0),(3,.ptr 256 0),(4,Ii nn),(5,Ii p.x),(6,Ii p.i)],[(0,.cells [.lst [Ii 0] (i64s L),Ii p.a]),(192,.cells [Ii 0,.bool false,Ii 0,Ii 0,Ii 0,Ii 0,.nil]),(256,.cells [Ii 5,.bool sg,Ii 0,Ii 0,Ii 0,Ii 0,.vw 3200 0 0 0]),(3200,.buf 108 [U 0,Ii 0] (pts p.l))]⟩
abbrev L66a (L:List Int)(sg:Bool)(nn:Int):LI:=⟨K66a L sg nn,S66a L sg nn,λp=>nn.toNat - p.i,λp q=>True⟩
theorem L66aS (L:List Int)(sg:Bool)(nn:Int):(L66a L sg nn).S=S66a L sg nn:=rfl
theorem L66aR (L:List Int)(sg:Bool)(nn:Int)(p q:K66a L sg nn):(L66a L sg nn).R p q=(True):=rfl
def I66 (L:List Int)(sg:Bool)(nn:Int):Nat→LI:=λn=>L66a L sg nn
theorem I66_0 (L:List Int)(sg:Bool)(nn:Int):I66 L sg nn 0=L66a L sg nn:=rfl
theorem walk66 (P61:Phi 61=some KNx)(P65:Phi 65=some KBo)(P95:Phi 95=some KLe)(P96:Phi 96=some KRw)(P97:Phi 97=some KMi)(L:List Int)(a:Int)(hl:L.length≤600)(ha:0≤a):evC Phi (I66 L (decide (nxV L (nxA L a) 2=2 - 1)) (2+nxV L (nxA L (nxA L a)) 11)) rc66 ⟨initS (.ptr 0 0::[]),initM true [.lst [.int .i64 0] (i64s L),.int .i64 a]⟩ (kRetX rv66 true (λi:Cv×PtV×Int=>(okCv ⟨i.1.fo,i.1.sg,i.1.m,i.1.b,i.1.k1,i.1.k2,i.2.1.av⟩∧0≤i.2.2,.agg [.int .i64 i.1.fo,.bool i.1.sg,.int .i64 i.1.m,.int .i64 i.1.b,.int .i64 i.1.k1,.int .i64 i.1.k2,i.2.1.av],[.lst [.int .i64 0] (i64s L),.int .i64 i.2.2]))):=by
 simp (maxSteps:=2000000) only [rc66,pk,un,rv66,Nat.reduceMul,Nat.reduceAdd,Nat.reduceEqDiff,↓reduceIte,P61,KNx,Qg0,Int.reduceLE,P65,KBo,Nat.reduceLeDiff,pv_lex,pv_pq,pv_frs,pv_wf,P95,KLe,I66_0,L66aS,S66a,Nat.reduceLT,Nat.reduceBEq,L66aR,P96,KRw,P97,KMi,pts_len,pts_app]
 have h1:=nxA_bd (L:=L) ha
 have h2:=nxA_bd (L:=L) h1
 have h3:=nxA_bd (L:=L) h2
 have h4:=nxA_bd (L:=L) h3
 have h5:=nxA_bd (L:=L) h4
 have h6:=nxA_bd (L:=L) h5
 have h7:=nxA_bd (L:=L) h6
 have h8:=nxA_bd (L:=L) h7
 have b5:=nxV_bd L a (n:=5) (by decide) (by decide)
 have e5:IntKind.i64.wrap (1+nxV L a 5) =1+nxV L a 5:=wr_in _ (by omega) (by omega)
 refine ⟨⟨hl,ha⟩,⟨hl,h1⟩,λhc=>?_,λhc=>?_⟩
 · rw [e5] at hc
   have hc:1+nxV L a 5≠5:=λe=>by rw [decide_eq_true e] at hc; exact absurd hc (by decide)
   have f5:1≤IntKind.i64.wrap (1+nxV L a 5)∧IntKind.i64.wrap (1+nxV L a 5)≤4:=by omega
   refine ⟨⟨hl,h2⟩,⟨hl,h3⟩,⟨hl,h4⟩,λhd=>?_,λhd=>?_⟩
   · refine ⟨⟨hl,h5⟩,⟨hl,h6⟩,⟨hl,h7⟩,⟨hl,h8⟩,(⟨_,_,_,_,_,_,.nil⟩,.nil,_),⟨?_,?_⟩,⟨rfl,rfl,rfl,rfl,rfl,rfl,rfl⟩,rfl⟩
     · exact .inl ⟨f5,fac_nx L _ (by decide) (by decide) (by decide) (by decide) (by decide),fac_nx L _ (by decide) (by decide) (by decide) (by decide) (by decide),pow_nx L _,pow_nx L _,rfl⟩
     · exact nxA_bd h8
   · refine ⟨⟨hl,h5⟩,⟨hl,h6⟩,(⟨_,_,_,_,_,_,.nil⟩,.nil,_),⟨?_,?_⟩,⟨rfl,rfl,rfl,rfl,rfl,rfl,rfl⟩,rfl⟩
     · exact .inl ⟨f5,fac_nx L _ (by decide) (by decide) (by decide) (by decide) (by decide),fac_nx L _ (by decide) (by decide) (by decide) (by decide) (by decide),pow_nx L _,pow_nx L _,rfl⟩
     · exact nxA_bd h6
 · have hc:1+nxV L a 5=5:=by
    rw [e5] at hc
    by_cases e:1+nxV L a 5=5
    · exact e
    · rw [decide_eq_false e] at hc; exact absurd hc (by decide)
   have b11:=nxV_bd L (nxA L (nxA L a)) (n:=11) (by decide) (by decide)
   have b40:=nxV_bd L (nxA L (nxA L (nxA L a))) (n:=40) (by decide) (by decide)
   generalize nxV L (nxA L (nxA L (nxA L a))) 40=x0 at b40 ⊢
   generalize decide (nxV L (nxA L a) 2=2 - 1) =sg
   have hnn:2≤2+nxV L (nxA L (nxA L a)) 11∧2+nxV L (nxA L (nxA L a)) 11≤12:=by omega
   generalize 2+nxV L (nxA L (nxA L a)) 11=nn at hnn ⊢
   have hb:(if sg=true then -128 else 0:Int) = -128∨(if sg=true then -128 else 0:Int) =0:=by cases sg; exact .inr rfl; exact .inl rfl
   have ex:IntKind.i64.wrap ((if sg=true then -128 else 0)+x0) =(if sg=true then -128 else 0)+x0:=wr_in _ (by omega) (by omega)
   refine ⟨⟨hl,h2⟩,⟨hl,h3⟩,⟨nxA L (nxA L (nxA L (nxA L a))),0,(if sg=true then -128 else 0)+x0,[],h4,by omega,rfl,by omega,λk hk=>(by cases hk),λk hk=>(by cases hk),λk hk=>(by cases hk)⟩,⟨⟨?_,?_,rfl⟩,rfl,?_,rfl⟩,?_⟩
   · rw [wr_in _ (by omega) (by omega)]
   · rw [ex]
   · rw [e5,hc]
   rintro ⟨b,i,x,l,hb0,hi,hll,hx,hp,ho,hs⟩
   dsimp only
   refine ⟨λhd=>?_,λhd=>?_⟩
   · have hd:=of_decide_eq_true hd
     have m1:=mcA_bd (L:=L) hb0
     have b18:=nxV_bd L (mcA L b) (n:=18) (by decide) (by decide)
     have nr:=num_raw sg (x:=x) (by omega) (by omega)
     rw [wr_in (1+nxV L (mcA L b) 18) (by omega) (by omega),wr_in (x+(1+nxV L (mcA L b) 18)) (by omega) (by omega),wr_succ _ (by omega)]
     refine ⟨by omega,⟨hl,hb0⟩,by omega,by omega,⟨hl,m1⟩,⟨nxA L (mcA L b),i+1,x+(1+nxV L (mcA L b) 18),l ++ [⟨(x+256).tmod 256,mcV L b⟩],nxA_bd m1,by omega,by rw [List.length_append,hll]; rfl,by omega,?_,?_,?_⟩,⟨⟨rfl,rfl⟩,rfl,rfl⟩,by dsimp only; omega⟩
     · intro k hk
       rw [getD_one]
       split
       · rename_i h; exact hp k h
       · have:k=l.length:=by rw [List.length_append] at hk; simp at hk; omega
         rw [if_pos this]; exact mcV_bd hb0
     · intro k hk
       rw [getD_one]
       split
       · rename_i h; have:=ho k h; omega
       · have:k=l.length:=by rw [List.length_append] at hk; simp at hk; omega
         rw [if_pos this,nr.1]; omega
     · intro k hk
       have hk:k < l.length:=by rw [List.length_append] at hk; simp at hk; omega
       rw [getD_one,getD_one,if_pos hk]
       split
       · rename_i h; exact hs k h
       · have:k+1=l.length:=by omega
         rw [if_pos this,nr.1]; exact ho k hk
   · have hd:=of_decide_eq_false hd
     refine ⟨(⟨5,sg,0,0,0,0,.nil⟩,.lst l,b),⟨.inr ⟨rfl,rfl,rfl,rfl,rfl,l,rfl,by omega,by omega,hp,hs⟩,hb0⟩,?_⟩
     simp only [PtV.av_lst,pk,un,Nat.reduceEqDiff,↓reduceIte,Nat.reduceLeDiff,Nat.reduceAdd]
structure Th where
 a:Int
 x:Int
 r0:Int
 r1:Int
 r2:Int
 r3:Int
 r4:Int
 r5:Int
def Th.r (t:Th):Nat→Int
 | 0=>t.r0
 | 1=>t.r1
 | 2=>t.r2
 | 3=>t.r3
 | 4=>t.r4
 | 5=>t.r5
 | _=>0
def ord6:Nat→Nat
 | 0=>2
 | 1=>1
 | 2=>0
 | k=>k
abbrev bs2 (sg:Bool):Int:=if sg then -128 else 0
def QT (sg:Bool)(mk:Int)(k:Nat)(t:Th):Prop:=0≤t.a∧bs2 sg≤t.x∧t.x≤bs2 sg+40+36 * (k:Int)∧∃ y:Nat→Int,(∀ j,j < k→bs2 sg≤y j∧y j≤t.x∧y j≤bs2 sg+41+36 * (j:Int))∧(∀ i j,i < j→j < k→y i≤y j)∧(∀ i j,i < 3→3≤j→j < k→y i < y j)∧
 (∀ j,j < k→t.r (ord6 j) =if bit mk (ord6 j) then (y j+256).tmod 256 else 0)∧∀ j,k≤j→j < 6→t.r (ord6 j) =0
theorem ord6_inj {i j:Nat}(hi:i < 6)(hj:j < 6)(h:ord6 i=ord6 j):i=j:=by
 match i,j,hi,hj with
 | 0,0,_,_=>rfl
 | 0,1,_,_=>cases h
 | 0,2,_,_=>cases h
 | 0,3,_,_=>cases h
 | 0,4,_,_=>cases h
 | 0,5,_,_=>cases h
 | 1,0,_,_=>cases h
 | 1,1,_,_=>rfl
 | 1,2,_,_=>cases h
 | 1,3,_,_=>cases h
 | 1,4,_,_=>cases h
 | 1,5,_,_=>cases h
 | 2,0,_,_=>cases h
 | 2,1,_,_=>cases h
 | 2,2,_,_=>rfl
 | 2,3,_,_=>cases h
 | 2,4,_,_=>cases h
 | 2,5,_,_=>cases h
 | 3,0,_,_=>cases h
 | 3,1,_,_=>cases h
 | 3,2,_,_=>cases h
 | 3,3,_,_=>rfl
 | 3,4,_,_=>cases h
 | 3,5,_,_=>cases h
 | 4,0,_,_=>cases h
 | 4,1,_,_=>cases h
 | 4,2,_,_=>cases h
 | 4,3,_,_=>cases h
 | 4,4,_,_=>rfl
 | 4,5,_,_=>cases h
 | 5,0,_,_=>cases h
 | 5,1,_,_=>cases h
 | 5,2,_,_=>cases h
 | 5,3,_,_=>cases h
 | 5,4,_,_=>cases h
 | 5,5,_,_=>rfl
def xk (k:Nat)(x:Int):Int:=if k=3 then x+1 else x
theorem QT.step {sg:Bool} {mk:Int} {k:Nat} {t t':Th}(h:QT sg mk k t)(hk:k < 6) {n:Int}(hn:0≤n∧n≤35)(ha:0≤t'.a)
 (hx:t'.x=xk k t.x+n) (hr:∀ m,m < 6→m≠ord6 k→t'.r m=t.r m) (hs:t'.r (ord6 k) =if bit mk (ord6 k) then (xk k t.x+256).tmod 256 else 0):QT sg mk (k+1) t':=by
 obtain ⟨h1,h2,h3,y,y1,y2,y3,y4,y5⟩:=h
 have o6:∀ j,j < 6→ord6 j < 6:=λj hj=>by
  match j,hj with
  | 0,_=>decide
  | 1,_=>decide
  | 2,_=>decide
  | 3,_=>decide
  | 4,_=>decide
  | 5,_=>decide
 have hxk:t.x≤xk k t.x∧xk k t.x≤t.x+1:=by unfold xk; split<;>omega
 have hx3:k=3→xk k t.x=t.x+1:=λe=>if_pos e
 refine ⟨ha,by omega,by omega,λj=>if j=k then xk k t.x else y j,?_,?_,?_,?_,?_⟩
 · intro j hj
   dsimp only
   split
   · rename_i e; rw [e]; omega
   · have:=y1 j (by omega); omega
 · intro i j hij hj
   dsimp only
   rw [if_neg (show i≠k by omega)]
   split
   · rename_i e; have:=y1 i (by omega); omega
   · exact y2 i j hij (by omega)
 · intro i j hi hj hjk
   dsimp only
   rw [if_neg (show i≠k by omega)]
   split
   · rename_i e
     have hyi:=y1 i (by omega)
     by_cases e3:k=3
     · have:=hx3 e3; omega
     · have:=y3 i 3 hi (by omega) (by omega)
       have:=y1 3 (by omega)
       omega
   · exact y3 i j hi hj (by omega)
 · intro j hj
   dsimp only
   by_cases e:j=k
   · rw [if_pos e,e]; exact hs
   · rw [if_neg e]
     rw [hr _ (o6 j (by omega)) (λe'=>e (ord6_inj (by omega) hk e'))]
     exact y4 j (by omega)
 · intro j hj hj6
   rw [hr _ (o6 j hj6) (λe'=>by have:=ord6_inj hj6 hk e'; omega)]
   exact y5 j (by omega) hj6
theorem QT0 {sg:Bool} {mk a x:Int}(ha:0≤a)(h1:bs2 sg≤x)(h2:x≤bs2 sg+40):QT sg mk 0 ⟨a,x,0,0,0,0,0,0⟩:=
 ⟨ha,h1,by dsimp only; omega,λ_=>0,λj hj=>absurd hj (by omega),λi j _ hj=>absurd hj (by omega),λi j _ _ hj=>absurd hj (by omega),λj hj=>absurd hj (by omega),λj _ hj=>by match j,hj with | 0,_=>rfl | 1,_=>rfl | 2,_=>rfl | 3,_=>rfl | 4,_=>rfl | 5,_=>rfl⟩
theorem has_bit:∀ m:Fin 64,∀ i:Fin 6,decide ((((m.val:Int)).fdiv (2 ^ i.val)).tmod 2=1) =bit (m.val:Int) i.val:=by decide +kernel
theorem has_bit' {mk:Int}(h:0≤mk∧mk < 64)(i:Nat)(hi:i < 6):decide ((mk.fdiv (2 ^ i)).tmod 2=1) =bit mk i:=by
 have:=has_bit ⟨mk.toNat,by omega⟩ ⟨i,hi⟩
 have e:((mk.toNat:Nat):Int) =mk:=by omega
 simpa only [e] using this
def KTh:Ctr:= .ext true (Int×Th) λcs xs=>match cs,xs with
 | [.lst zz es,.int .i64 a],[.bool sg]=>some ((((zz= [.int .i64 0]∧es=i64s (decU es))∧es.length≤600)∧0≤a),λi=>((0≤i.1∧i.1 < 64)∧QT sg i.1 6 i.2,.agg [.int .u8 i.1,.int .u8 i.2.r0,.int .u8 i.2.r1,.int .u8 i.2.r2,.int .u8 i.2.r3,.int .u8 i.2.r4,.int .u8 i.2.r5],[.lst zz es,.int .i64 i.2.a]))
 | _,_=>none
def S67a (L:List Int)(sg:Bool)(mk:Int)(p:(I7×Th)):SL:=⟨[(0,.ptr 0 0),(1,.bool sg),(4,.ptr 320 0),(5,.ptr 384 0),(6,Ii p.2.x),(7,.ptr 512 0),(8,Ii p.1.z)],[(0,.cells [.lst [Ii 0] (i64s L),Ii p.2.a]),(320,.cells [U 0,U 0,U 0,U 0,U 0,U 0,U 0]),(384,.cells [U mk,U p.2.r0,U p.2.r1,U p.2.r2,U p.2.r3,U p.2.r4,U p.2.r5]),(512,.cells [Ii 2,Ii 1,Ii 0,Ii 3,Ii 4,Ii 5])]⟩
abbrev L67a (L:List Int)(sg:Bool)(mk:Int):LI:=⟨(I7×Th),S67a L sg mk,λp=>6 - p.1.n,λp q=>QT sg mk q.1.n q.2⟩
theorem L67aS (L:List Int)(sg:Bool)(mk:Int):(L67a L sg mk).S=S67a L sg mk:=rfl
theorem L67aR (L:List Int)(sg:Bool)(mk:Int)(p q:(I7×Th)):(L67a L sg mk).R p q=(QT sg mk q.1.n q.2):=rfl
def I67 (L:List Int)(sg:Bool)(mk:Int):Nat→LI:=λn=>L67a L sg mk
theorem I67_0 (L:List Int)(sg:Bool)(mk:Int):I67 L sg mk 0=L67a L sg mk:=rfl
theorem walk67 (P61:Phi 61=some KNx)(P95:Phi 95=some KLe)(P96:Phi 96=some KRw)(P98:Phi 98=some KHas)(L:List Int)(a:Int)(hl:L.length≤600)(ha:0≤a)(sg:Bool):evC Phi (I67 L sg (nxV L a 64)) rc67 ⟨initS (.ptr 0 0::[.bool sg]),initM true [.lst [.int .i64 0] (i64s L),.int .i64 a]⟩ (kRetX rv67 true (λi:Int×Th=>((0≤i.1∧i.1 < 64)∧QT sg i.1 6 i.2,.agg [.int .u8 i.1,.int .u8 i.2.r0,.int .u8 i.2.r1,.int .u8 i.2.r2,.int .u8 i.2.r3,.int .u8 i.2.r4,.int .u8 i.2.r5],[.lst [.int .i64 0] (i64s L),.int .i64 i.2.a]))):=by
 simp (maxSteps:=2000000) only [rc67,pk,un,rv67,Nat.reduceMul,Nat.reduceAdd,Nat.reduceEqDiff,↓reduceIte,P61,KNx,Qg0,Int.reduceLE,Nat.reduceLeDiff,P95,KLe,I67_0,L67aS,S67a,L67aR,sel,Nat.reduceBEq,↓Prod.forall,↓forall_I7,I7n0,I7z0,Int.reduceLT,Int.reduceEq,Int.reduceToNat,Nat.reduceLT,P98,KHas,P96,KRw,I7n1,I7z1,I7n2,I7z2,I7n3,I7z3,I7n4,I7z4,I7n5,I7z5,I7n6,I7z6]
 have h1:=nxA_bd (L:=L) ha
 have h2:=nxA_bd (L:=L) h1
 have hmk:=nxV_bd L a (n:=64) (by decide) (by decide)
 have b40:=nxV_bd L (nxA L a) (n:=40) (by decide) (by decide)
 have em8:IntKind.u8.wrap (nxV L a 64) =nxV L a 64:=wr_u8 _ (by omega) (by omega)
 have em:IntKind.u16.wrap (nxV L a 64) =nxV L a 64:=wr_u16 _ (by omega) (by omega)
 have hb:bs2 sg= -128∨bs2 sg=0:=by cases sg; exact .inr rfl; exact .inl rfl
 generalize nxV L a 64=mk at *
 generalize nxV L (nxA L a) 40=x0 at *
 refine ⟨⟨hl,ha⟩,⟨hl,h1⟩,(.a0,⟨nxA L (nxA L a),bs2 sg+x0,0,0,0,0,0,0⟩),⟨⟨?_,rfl⟩,rfl,?_,rfl,rfl,rfl,rfl,rfl,rfl⟩,QT0 h2 (by omega) (by omega),?_⟩
 · rw [wr_in _ (by show _≤bs2 sg+x0; omega) (by show bs2 sg+x0≤_; omega)]
 · rw [em8]
 refine ⟨?_,?_,?_,?_,?_,?_,?_⟩
 · intro b q
   obtain ⟨qa,q1,q2,qy⟩:=id q
   rw [em]
   have n36:=nxV_bd L b.a (n:=36) (by decide) (by decide)
   have qz:b.r2=0:=by obtain ⟨y,_,_,_,_,y5⟩:=qy; exact y5 0 (by omega) (by omega)
   have ek:IntKind.i64.wrap (0+1) =1:=wr_in _ (by decide) (by decide)
   rw [ek]
   have en:IntKind.i64.wrap (b.x+nxV L b.a 36) =b.x+nxV L b.a 36:=wr_in _ (by omega) (by omega)
   rw [en]
   have hhb:=has_bit' ⟨hmk.1,hmk.2⟩ 2 (by decide)
   refine ⟨by decide,⟨by omega,by omega⟩,λhc=>?_,λhc=>?_⟩
   · have hc:bit mk 2=true:=hhb.symm.trans hc
     refine ⟨by decide,⟨by omega,by omega⟩,by decide,⟨hl,qa⟩,(.a1,⟨_,_,_,_,_,_,_,_⟩),⟨⟨rfl,rfl⟩,rfl,rfl,rfl,rfl,rfl,rfl,rfl⟩,?_,(show (6 - 1:Nat) < 6 - 0 by decide)⟩
     exact q.step (k:=0) (by decide) (n:=nxV L b.a 36) ⟨by omega,by omega⟩ (nxA_bd qa) rfl (λm hm hne=>by match m,hm,hne with | 0,_,h=>exact rfl | 1,_,h=>exact rfl | 2,_,h=>exact absurd rfl h | 3,_,h=>exact rfl | 4,_,h=>exact rfl | 5,_,h=>exact rfl) (by show _=if bit mk 2=true then _ else _; rw [if_pos hc]; rfl)
   · have hc:bit mk 2=false:=hhb.symm.trans hc
     refine ⟨(.a1,⟨_,_,_,_,_,_,_,_⟩),⟨⟨rfl,rfl⟩,rfl,rfl,rfl,rfl,rfl,rfl,rfl⟩,?_,(show (6 - 1:Nat) < 6 - 0 by decide)⟩
     exact q.step (k:=0) (by decide) (n:=0) ⟨by omega,by omega⟩ qa (Int.add_zero _).symm (λm hm hne=>by match m,hm,hne with | 0,_,h=>exact rfl | 1,_,h=>exact rfl | 2,_,h=>exact absurd rfl h | 3,_,h=>exact rfl | 4,_,h=>exact rfl | 5,_,h=>exact rfl) (by show _=if bit mk 2=true then _ else _; rw [if_neg (by rw [hc]; decide)]; exact qz)
 · intro b q
   obtain ⟨qa,q1,q2,qy⟩:=id q
   rw [em]
   have n36:=nxV_bd L b.a (n:=36) (by decide) (by decide)
   have qz:b.r1=0:=by obtain ⟨y,_,_,_,_,y5⟩:=qy; exact y5 1 (by omega) (by omega)
   have ek:IntKind.i64.wrap (1+1) =2:=wr_in _ (by decide) (by decide)
   rw [ek]
   have en:IntKind.i64.wrap (b.x+nxV L b.a 36) =b.x+nxV L b.a 36:=wr_in _ (by omega) (by omega)
   rw [en]
   have hhb:=has_bit' ⟨hmk.1,hmk.2⟩ 1 (by decide)
   refine ⟨by decide,⟨by omega,by omega⟩,λhc=>?_,λhc=>?_⟩
   · have hc:bit mk 1=true:=hhb.symm.trans hc
     refine ⟨by decide,⟨by omega,by omega⟩,by decide,⟨hl,qa⟩,(.a2,⟨_,_,_,_,_,_,_,_⟩),⟨⟨rfl,rfl⟩,rfl,rfl,rfl,rfl,rfl,rfl,rfl⟩,?_,(show (6 - 2:Nat) < 6 - 1 by decide)⟩
     exact q.step (k:=1) (by decide) (n:=nxV L b.a 36) ⟨by omega,by omega⟩ (nxA_bd qa) rfl (λm hm hne=>by match m,hm,hne with | 0,_,h=>exact rfl | 1,_,h=>exact absurd rfl h | 2,_,h=>exact rfl | 3,_,h=>exact rfl | 4,_,h=>exact rfl | 5,_,h=>exact rfl) (by show _=if bit mk 1=true then _ else _; rw [if_pos hc]; rfl)
   · have hc:bit mk 1=false:=hhb.symm.trans hc
     refine ⟨(.a2,⟨_,_,_,_,_,_,_,_⟩),⟨⟨rfl,rfl⟩,rfl,rfl,rfl,rfl,rfl,rfl,rfl⟩,?_,(show (6 - 2:Nat) < 6 - 1 by decide)⟩
     exact q.step (k:=1) (by decide) (n:=0) ⟨by omega,by omega⟩ qa (Int.add_zero _).symm (λm hm hne=>by match m,hm,hne with | 0,_,h=>exact rfl | 1,_,h=>exact absurd rfl h | 2,_,h=>exact rfl | 3,_,h=>exact rfl | 4,_,h=>exact rfl | 5,_,h=>exact rfl) (by show _=if bit mk 1=true then _ else _; rw [if_neg (by rw [hc]; decide)]; exact qz)
 · intro b q
   obtain ⟨qa,q1,q2,qy⟩:=id q
   rw [em]
   have n36:=nxV_bd L b.a (n:=36) (by decide) (by decide)
   have qz:b.r0=0:=by obtain ⟨y,_,_,_,_,y5⟩:=qy; exact y5 2 (by omega) (by omega)
   have ek:IntKind.i64.wrap (2+1) =3:=wr_in _ (by decide) (by decide)
   rw [ek]
   have en:IntKind.i64.wrap (b.x+nxV L b.a 36) =b.x+nxV L b.a 36:=wr_in _ (by omega) (by omega)
   rw [en]
   have hhb:=has_bit' ⟨hmk.1,hmk.2⟩ 0 (by decide)
   refine ⟨by decide,⟨by omega,by omega⟩,λhc=>?_,λhc=>?_⟩
   · have hc:bit mk 0=true:=hhb.symm.trans hc
     refine ⟨by decide,⟨by omega,by omega⟩,by decide,⟨hl,qa⟩,(.a3,⟨_,_,_,_,_,_,_,_⟩),⟨⟨rfl,rfl⟩,rfl,rfl,rfl,rfl,rfl,rfl,rfl⟩,?_,(show (6 - 3:Nat) < 6 - 2 by decide)⟩
     exact q.step (k:=2) (by decide) (n:=nxV L b.a 36) ⟨by omega,by omega⟩ (nxA_bd qa) rfl (λm hm hne=>by match m,hm,hne with | 0,_,h=>exact absurd rfl h | 1,_,h=>exact rfl | 2,_,h=>exact rfl | 3,_,h=>exact rfl | 4,_,h=>exact rfl | 5,_,h=>exact rfl) (by show _=if bit mk 0=true then _ else _; rw [if_pos hc]; rfl)
   · have hc:bit mk 0=false:=hhb.symm.trans hc
     refine ⟨(.a3,⟨_,_,_,_,_,_,_,_⟩),⟨⟨rfl,rfl⟩,rfl,rfl,rfl,rfl,rfl,rfl,rfl⟩,?_,(show (6 - 3:Nat) < 6 - 2 by decide)⟩
     exact q.step (k:=2) (by decide) (n:=0) ⟨by omega,by omega⟩ qa (Int.add_zero _).symm (λm hm hne=>by match m,hm,hne with | 0,_,h=>exact absurd rfl h | 1,_,h=>exact rfl | 2,_,h=>exact rfl | 3,_,h=>exact rfl | 4,_,h=>exact rfl | 5,_,h=>exact rfl) (by show _=if bit mk 0=true then _ else _; rw [if_neg (by rw [hc]; decide)]; exact qz)
 · intro b q
   obtain ⟨qa,q1,q2,qy⟩:=id q
   rw [em]
   have n36:=nxV_bd L b.a (n:=36) (by decide) (by decide)
   have qz:b.r3=0:=by obtain ⟨y,_,_,_,_,y5⟩:=qy; exact y5 3 (by omega) (by omega)
   have ek:IntKind.i64.wrap (3+1) =4:=wr_in _ (by decide) (by decide)
   rw [ek]
   have e3:IntKind.i64.wrap (b.x+1) =b.x+1:=wr_in _ (by omega) (by omega)
   rw [e3]
   have en:IntKind.i64.wrap ((b.x+1)+nxV L b.a 36) =(b.x+1)+nxV L b.a 36:=wr_in _ (by omega) (by omega)
   rw [en]
   have hhb:=has_bit' ⟨hmk.1,hmk.2⟩ 3 (by decide)
   refine ⟨by decide,⟨by omega,by omega⟩,λhc=>?_,λhc=>?_⟩
   · have hc:bit mk 3=true:=hhb.symm.trans hc
     refine ⟨by decide,⟨by omega,by omega⟩,by decide,⟨hl,qa⟩,(.a4,⟨_,_,_,_,_,_,_,_⟩),⟨⟨rfl,rfl⟩,rfl,rfl,rfl,rfl,rfl,rfl,rfl⟩,?_,(show (6 - 4:Nat) < 6 - 3 by decide)⟩
     exact q.step (k:=3) (by decide) (n:=nxV L b.a 36) ⟨by omega,by omega⟩ (nxA_bd qa) rfl (λm hm hne=>by match m,hm,hne with | 0,_,h=>exact rfl | 1,_,h=>exact rfl | 2,_,h=>exact rfl | 3,_,h=>exact absurd rfl h | 4,_,h=>exact rfl | 5,_,h=>exact rfl) (by show _=if bit mk 3=true then _ else _; rw [if_pos hc]; rfl)
   · have hc:bit mk 3=false:=hhb.symm.trans hc
     refine ⟨(.a4,⟨_,_,_,_,_,_,_,_⟩),⟨⟨rfl,rfl⟩,rfl,rfl,rfl,rfl,rfl,rfl,rfl⟩,?_,(show (6 - 4:Nat) < 6 - 3 by decide)⟩
     exact q.step (k:=3) (by decide) (n:=0) ⟨by omega,by omega⟩ qa (Int.add_zero _).symm (λm hm hne=>by match m,hm,hne with | 0,_,h=>exact rfl | 1,_,h=>exact rfl | 2,_,h=>exact rfl | 3,_,h=>exact absurd rfl h | 4,_,h=>exact rfl | 5,_,h=>exact rfl) (by show _=if bit mk 3=true then _ else _; rw [if_neg (by rw [hc]; decide)]; exact qz)
 · intro b q
   obtain ⟨qa,q1,q2,qy⟩:=id q
   rw [em]
   have n36:=nxV_bd L b.a (n:=36) (by decide) (by decide)
   have qz:b.r4=0:=by obtain ⟨y,_,_,_,_,y5⟩:=qy; exact y5 4 (by omega) (by omega)
   have ek:IntKind.i64.wrap (4+1) =5:=wr_in _ (by decide) (by decide)
   rw [ek]
   have en:IntKind.i64.wrap (b.x+nxV L b.a 36) =b.x+nxV L b.a 36:=wr_in _ (by omega) (by omega)
   rw [en]
   have hhb:=has_bit' ⟨hmk.1,hmk.2⟩ 4 (by decide)
   refine ⟨by decide,⟨by omega,by omega⟩,λhc=>?_,λhc=>?_⟩
   · have hc:bit mk 4=true:=hhb.symm.trans hc
     refine ⟨by decide,⟨by omega,by omega⟩,by decide,⟨hl,qa⟩,(.a5,⟨_,_,_,_,_,_,_,_⟩),⟨⟨rfl,rfl⟩,rfl,rfl,rfl,rfl,rfl,rfl,rfl⟩,?_,(show (6 - 5:Nat) < 6 - 4 by decide)⟩
     exact q.step (k:=4) (by decide) (n:=nxV L b.a 36) ⟨by omega,by omega⟩ (nxA_bd qa) rfl (λm hm hne=>by match m,hm,hne with | 0,_,h=>exact rfl | 1,_,h=>exact rfl | 2,_,h=>exact rfl | 3,_,h=>exact rfl | 4,_,h=>exact absurd rfl h | 5,_,h=>exact rfl) (by show _=if bit mk 4=true then _ else _; rw [if_pos hc]; rfl)
   · have hc:bit mk 4=false:=hhb.symm.trans hc
     refine ⟨(.a5,⟨_,_,_,_,_,_,_,_⟩),⟨⟨rfl,rfl⟩,rfl,rfl,rfl,rfl,rfl,rfl,rfl⟩,?_,(show (6 - 5:Nat) < 6 - 4 by decide)⟩
     exact q.step (k:=4) (by decide) (n:=0) ⟨by omega,by omega⟩ qa (Int.add_zero _).symm (λm hm hne=>by match m,hm,hne with | 0,_,h=>exact rfl | 1,_,h=>exact rfl | 2,_,h=>exact rfl | 3,_,h=>exact rfl | 4,_,h=>exact absurd rfl h | 5,_,h=>exact rfl) (by show _=if bit mk 4=true then _ else _; rw [if_neg (by rw [hc]; decide)]; exact qz)
 · intro b q
   obtain ⟨qa,q1,q2,qy⟩:=id q
   rw [em]
   have n36:=nxV_bd L b.a (n:=36) (by decide) (by decide)
   have qz:b.r5=0:=by obtain ⟨y,_,_,_,_,y5⟩:=qy; exact y5 5 (by omega) (by omega)
   have ek:IntKind.i64.wrap (5+1) =6:=wr_in _ (by decide) (by decide)
   rw [ek]
   have en:IntKind.i64.wrap (b.x+nxV L b.a 36) =b.x+nxV L b.a 36:=wr_in _ (by omega) (by omega)
   rw [en]
   have hhb:=has_bit' ⟨hmk.1,hmk.2⟩ 5 (by decide)
   refine ⟨by decide,⟨by omega,by omega⟩,λhc=>?_,λhc=>?_⟩
   · have hc:bit mk 5=true:=hhb.symm.trans hc
     refine ⟨by decide,⟨by omega,by omega⟩,by decide,⟨hl,qa⟩,(.a6,⟨_,_,_,_,_,_,_,_⟩),⟨⟨rfl,rfl⟩,rfl,rfl,rfl,rfl,rfl,rfl,rfl⟩,?_,(show (6 - 6:Nat) < 6 - 5 by decide)⟩
     exact q.step (k:=5) (by decide) (n:=nxV L b.a 36) ⟨by omega,by omega⟩ (nxA_bd qa) rfl (λm hm hne=>by match m,hm,hne with | 0,_,h=>exact rfl | 1,_,h=>exact rfl | 2,_,h=>exact rfl | 3,_,h=>exact rfl | 4,_,h=>exact rfl | 5,_,h=>exact absurd rfl h) (by show _=if bit mk 5=true then _ else _; rw [if_pos hc]; rfl)
   · have hc:bit mk 5=false:=hhb.symm.trans hc
     refine ⟨(.a6,⟨_,_,_,_,_,_,_,_⟩),⟨⟨rfl,rfl⟩,rfl,rfl,rfl,rfl,rfl,rfl,rfl⟩,?_,(show (6 - 6:Nat) < 6 - 5 by decide)⟩
     exact q.step (k:=5) (by decide) (n:=0) ⟨by omega,by omega⟩ qa (Int.add_zero _).symm (λm hm hne=>by match m,hm,hne with | 0,_,h=>exact rfl | 1,_,h=>exact rfl | 2,_,h=>exact rfl | 3,_,h=>exact rfl | 4,_,h=>exact rfl | 5,_,h=>exact absurd rfl h) (by show _=if bit mk 5=true then _ else _; rw [if_neg (by rw [hc]; decide)]; exact qz)
 · intro b q
   exact ⟨(mk,b),⟨hmk,q⟩,⟨rfl,rfl,rfl,rfl,rfl,rfl,rfl⟩,rfl⟩
structure Sq where
 nu:Int
 ty:Int
 un:Int
 nm:List UInt8
 ei:Int
 en:Int
 di:Bool
 fo:Int
 sg:Bool
 m:Int
 b:Int
 k1:Int
 k2:Int
 p:PtV
 mk':Int
 r0:Int
 r1:Int
 r2:Int
 r3:Int
 r4:Int
 r5:Int
 hl:Int
 hu:Int
 st:Int
 as':Int
 de:Int
 ho:Bool
 sa:Int
def Sq.se (q:Sq):Se:=⟨q.nu,q.ty,q.un,q.nm,q.ei,q.en,q.di,q.fo,q.sg,q.m,q.b,q.k1,q.k2,q.p.av,q.mk',q.r0,q.r1,q.r2,q.r3,q.r4,q.r5,q.hl,q.hu,q.st,q.as',q.de,q.ho,q.sa⟩
structure PreS (nu:Int)(s:Se):Prop where
 nu:s.nu=nu
 nm:okN s.nm
 sa:s.sa=1∨s.sa=3∨s.sa=5
 di:s.di=false
 cv:okCv s.cv
 mk0:0≤s.mk'
 mk1:s.mk' < 64
 st:s.st=0
 rz:∀ k,k < 6→rzK s k=false
 lo:asc (lows s)
 up:asc (ups s)
 ap:apK s=true
 rb:∀ k,0≤s.rw k∧s.rw k≤255
 hl:0≤s.hl∧s.hl≤255
 hu:0≤s.hu∧s.hu≤255
theorem asc_nil:asc []:=λi hi=>absurd hi (by simp)
theorem asc_one (a:Int):asc [a]:=λi hi=>absurd hi (by simp)
theorem asc_two {a b:Int}(h:a≤b):asc [a,b]:=λi hi=>by
 match i,hi with
 | 0,_=>exact h
 | i+1,hi=>exact absurd hi (by simp)
theorem asc_three {a b c:Int}(h:a≤b)(h2:b≤c):asc [a,b,c]:=λi hi=>by
 match i,hi with
 | 0,_=>exact h
 | 1,_=>exact h2
 | i+2,hi=>exact absurd hi (by simp)
theorem QT.pre {sg:Bool} {mk:Int} {t:Th}(h:QT sg mk 6 t)(s:Se)(hs:s.sg=sg)(hm:s.mk'=mk)(hm0:0≤mk∧mk < 64)(hr:∀ k,k < 6→s.rw k=t.r k)(hr6:∀ k,6≤k→s.rw k=0):
 (∀ k,k < 6→rzK s k=false)∧asc (lows s)∧asc (ups s)∧apK s=true∧∀ k,0≤s.rw k∧s.rw k≤255:=by
 obtain ⟨_,_,_,y,y1,y2,y3,y4,_⟩:=h
 have hv:∀ j,j < 6→s.rw (ord6 j) =if bit mk (ord6 j) then (y j+256).tmod 256 else 0:=λj hj=>by
  rw [hr _ (by match j,hj with | 0,_=>decide | 1,_=>decide | 2,_=>decide | 3,_=>decide | 4,_=>decide | 5,_=>decide)]
  exact y4 j hj
 have hn:∀ j,j < 6→num sg ((y j+256).tmod 256) =y j∧0≤(y j+256).tmod 256∧(y j+256).tmod 256≤255:=λj hj=>by
  have:=y1 j hj
  exact num_raw sg (by show bs2 sg≤y j; omega) (by show y j≤bs2 sg+255; omega)
 have ho:∀ k,k < 6→∃ j,j < 6∧ord6 j=k:=λk hk=>by
  match k,hk with
  | 0,_=>exact ⟨2,by decide,rfl⟩
  | 1,_=>exact ⟨1,by decide,rfl⟩
  | 2,_=>exact ⟨0,by decide,rfl⟩
  | 3,_=>exact ⟨3,by decide,rfl⟩
  | 4,_=>exact ⟨4,by decide,rfl⟩
  | 5,_=>exact ⟨5,by decide,rfl⟩
 have v0:=hv 0 (by decide)
 have v1:=hv 1 (by decide)
 have v2:=hv 2 (by decide)
 have v3:=hv 3 (by decide)
 have v4:=hv 4 (by decide)
 have v5:=hv 5 (by decide)
 have n0:=(hn 0 (by decide)).1
 have n1:=(hn 1 (by decide)).1
 have n2:=(hn 2 (by decide)).1
 have n3:=(hn 3 (by decide)).1
 have n4:=(hn 4 (by decide)).1
 have n5:=(hn 5 (by decide)).1
 have eI:∀ (l:List Int) (k j:Nat),k=ord6 j→j < 6→nmI s l k=if bit mk k then l ++ [y j] else l:=λl k j e hj=>by
  unfold nmI
  rw [hm]
  by_cases hb:bit mk k=true
  · rw [if_pos hb,if_pos hb,e,hv j hj,if_pos (by rw [← e]; exact hb),hs,(hn j hj).1]
  · rw [if_neg hb,if_neg hb]
 have eL:lows s=(if bit mk 0 then (if bit mk 1 then (if bit mk 2 then [] ++ [y 0] else []) ++ [y 1] else (if bit mk 2 then [] ++ [y 0] else [])) ++ [y 2] else (if bit mk 1 then (if bit mk 2 then [] ++ [y 0] else []) ++ [y 1] else (if bit mk 2 then [] ++ [y 0] else []))):=by
  show nmI s (nmI s (nmI s [] 2) 1) 0=_
  rw [eI _ 0 2 rfl (by decide),eI _ 1 1 rfl (by decide),eI _ 2 0 rfl (by decide)]
 have eU:ups s=(if bit mk 5 then (if bit mk 4 then (if bit mk 3 then [] ++ [y 3] else []) ++ [y 4] else (if bit mk 3 then [] ++ [y 3] else [])) ++ [y 5] else (if bit mk 4 then (if bit mk 3 then [] ++ [y 3] else []) ++ [y 4] else (if bit mk 3 then [] ++ [y 3] else []))):=by
  show nmI s (nmI s (nmI s [] 3) 4) 5=_
  rw [eI _ 5 5 rfl (by decide),eI _ 4 4 rfl (by decide),eI _ 3 3 rfl (by decide)]
 have a01:=y2 0 1 (by decide) (by decide)
 have a02:=y2 0 2 (by decide) (by decide)
 have a12:=y2 1 2 (by decide) (by decide)
 have a34:=y2 3 4 (by decide) (by decide)
 have a35:=y2 3 5 (by decide) (by decide)
 have a45:=y2 4 5 (by decide) (by decide)
 have hL:asc (lows s)∧(lows s= []∨∃ i,i < 3∧(lows s).getD ((lows s).length - 1) 0=y i):=by
  rw [eL]
  cases bit mk 0<;>cases bit mk 1<;>cases bit mk 2
  · exact ⟨asc_nil,.inl rfl⟩
  · exact ⟨asc_one _,.inr ⟨0,by decide,rfl⟩⟩
  · exact ⟨asc_one _,.inr ⟨1,by decide,rfl⟩⟩
  · exact ⟨asc_two a01,.inr ⟨1,by decide,rfl⟩⟩
  · exact ⟨asc_one _,.inr ⟨2,by decide,rfl⟩⟩
  · exact ⟨asc_two a02,.inr ⟨2,by decide,rfl⟩⟩
  · exact ⟨asc_two a12,.inr ⟨2,by decide,rfl⟩⟩
  · exact ⟨asc_three a01 a12,.inr ⟨2,by decide,rfl⟩⟩
 have hU:asc (ups s)∧(ups s= []∨∃ j,3≤j∧j < 6∧(ups s).getD 0 0=y j):=by
  rw [eU]
  cases bit mk 5<;>cases bit mk 4<;>cases bit mk 3
  · exact ⟨asc_nil,.inl rfl⟩
  · exact ⟨asc_one _,.inr ⟨3,by decide,by decide,rfl⟩⟩
  · exact ⟨asc_one _,.inr ⟨4,by decide,by decide,rfl⟩⟩
  · exact ⟨asc_two a34,.inr ⟨3,by decide,by decide,rfl⟩⟩
  · exact ⟨asc_one _,.inr ⟨5,by decide,by decide,rfl⟩⟩
  · exact ⟨asc_two a35,.inr ⟨3,by decide,by decide,rfl⟩⟩
  · exact ⟨asc_two a45,.inr ⟨4,by decide,by decide,rfl⟩⟩
  · exact ⟨asc_three a34 a45,.inr ⟨3,by decide,by decide,rfl⟩⟩
 refine ⟨λk hk=>?_,hL.1,hU.1,?_,λk=>?_⟩
 · obtain ⟨j,hj,e⟩:=ho k hk
   have hvk:=hv j hj
   rw [e] at hvk
   unfold rzK
   rw [hm]
   by_cases hb:bit mk k=true
   · have hb2:bitsI .and .u8 (mk.fdiv (2 ^ k)) 1=1:=of_decide_eq_true hb
     rw [hb2]; rfl
   · rw [if_neg hb] at hvk
     rw [hvk,decide_eq_true rfl]
     simp
 · unfold apK
   rcases hL.2 with h1 | ⟨i,hi,h1⟩
   · rw [h1]; rfl
   · rcases hU.2 with h2 | ⟨j,hj,hj6,h2⟩
     · rw [h2]; simp
     · rw [h1,h2,decide_eq_true (y3 i j hi hj hj6),Bool.or_true]
 · by_cases hk:k < 6
   · obtain ⟨j,hj,e⟩:=ho k hk
     have hvk:=hv j hj
     rw [e] at hvk
     rw [hvk]
     split
     · exact (hn j hj).2
     · omega
   · rw [hr6 k (by omega)]; omega
theorem lim8_bd (k:Nat):0≤lim8.getD k 0∧lim8.getD k 0≤255:=by
 match k with
 | 0=>decide
 | 1=>decide
 | 2=>decide
 | 3=>decide
 | 4=>decide
 | 5=>decide
 | 6=>decide
 | 7=>decide
 | k+8=>exact ⟨by show (0:Int)≤0; decide,by show (0:Int)≤255; decide⟩
theorem yV_bd (L:List Int)(a:Int):0≤yV L a∧yV L a≤255:=by
 unfold yV
 split
 · exact lim8_bd _
 · have:=nxV_bd L (nxA L a) (n:=256) (by decide) (by decide)
   omega
theorem nm_ok {nm:List UInt8}(h1:1≤nm.length)(h2:nm.length≤16)(hm:∀ x∈nm,x∈([67,80,85,32,84,101,109,112,46,48,49,57]:List UInt8)):okN nm:=by
 have key:∀ x∈([67,80,85,32,84,101,109,112,46,48,49,57]:List UInt8),32≤(x.toNat:Int)∧(x.toNat:Int)≤126:=by decide
 refine ⟨λi hi=>key _ (hm _ ?_),h1,h2⟩
 rw [List.getD_eq_getElem?_getD,List.getElem?_eq_getElem hi]
 exact List.getElem_mem hi
theorem pre_mk {nu ty un ei en fo m b k1 k2 mk hl hu as' de sa:Int} {nm:List UInt8} {sg ho:Bool} {p:PtV}(t:Th)(hnm:okN nm)(hsa:sa=1∨sa=3∨sa=5)(hcv:okCv ⟨fo,sg,m,b,k1,k2,p.av⟩)(hmk:0≤mk∧mk < 64)(hq:QT sg mk 6 t)(hhl:0≤hl∧hl≤255)(hhu:0≤hu∧hu≤255):
 PreS nu (Sq.se ⟨nu,ty,un,nm,ei,en,false,fo,sg,m,b,k1,k2,p,mk,t.r0,t.r1,t.r2,t.r3,t.r4,t.r5,hl,hu,0,as',de,ho,sa⟩):=by
 obtain ⟨q1,q2,q3,q4,q5⟩:=hq.pre (Sq.se ⟨nu,ty,un,nm,ei,en,false,fo,sg,m,b,k1,k2,p,mk,t.r0,t.r1,t.r2,t.r3,t.r4,t.r5,hl,hu,0,as',de,ho,sa⟩) rfl rfl hmk (λk hk=>by
  match k,hk with
  | 0,_=>rfl
  | 1,_=>rfl
  | 2,_=>rfl
  | 3,_=>rfl
  | 4,_=>rfl
  | 5,_=>rfl) (λk hk=>by
  match k,hk with
  | k+6,_=>rfl)
 exact ⟨rfl,hnm,hsa,rfl,hcv,hmk.1,hmk.2,rfl,q1,q2,q3,q4,q5,hhl,hhu⟩
theorem pre_lit0:PreS 0 (Sq.se ⟨0,1,0,[120],0,0,false,1,false,1,0,0,0,.nil,63,30,20,10,200,210,220,2,3,0,63,63,false,1⟩):=by
 refine ⟨rfl,⟨λi hi=>?_,by decide,by decide⟩,.inl rfl,rfl,.inl ⟨⟨by decide,by decide⟩,by decide,by decide,by decide,by decide,rfl⟩,by decide,by decide,rfl,λk hk=>?_,?_,?_,rfl,λk=>?_,by decide,by decide⟩
 · match i,hi with
   | 0,_=>exact (by decide)
   | i+1,hi=>exact absurd hi (by simp [Sq.se])
 · match k,hk with
   | 0,_=>rfl
   | 1,_=>rfl
   | 2,_=>rfl
   | 3,_=>rfl
   | 4,_=>rfl
   | 5,_=>rfl
 · exact asc_three (show (10:Int)≤20 by decide) (show (20:Int)≤30 by decide)
 · exact asc_three (show (200:Int)≤210 by decide) (show (210:Int)≤220 by decide)
 · match k with
   | 0=>exact (by decide)
   | 1=>exact (by decide)
   | 2=>exact (by decide)
   | 3=>exact (by decide)
   | 4=>exact (by decide)
   | 5=>exact (by decide)
   | k+6=>exact ⟨Int.le_refl _,by show (0:Int)≤255; decide⟩
theorem pre_lit (nu:Int):PreS nu (Sq.se ⟨nu,1,0,[120],0,0,false,1,false,1,0,0,0,.nil,63,30,20,10,200,210,220,2,3,0,63,63,false,1⟩):=
 ⟨rfl,pre_lit0.nm,pre_lit0.sa,pre_lit0.di,pre_lit0.cv,pre_lit0.mk0,pre_lit0.mk1,pre_lit0.st,pre_lit0.rz,pre_lit0.lo,pre_lit0.up,pre_lit0.ap,pre_lit0.rb,pre_lit0.hl,pre_lit0.hu⟩
def KSe:Ctr:= .ext true (Sq×Int) λcs xs=>match cs,xs with
 | [.lst zz es,.int .i64 a],[.int .u8 nu]=>some ((((zz= [.int .i64 0]∧es=i64s (decU es))∧es.length≤600)∧0≤a),λi=>((i.1.di=true∨PreS nu i.1.se)∧0≤i.2,.agg [.int .u8 i.1.nu,.int .u8 i.1.ty,.int .u8 i.1.un,.str i.1.nm,.int .u8 i.1.ei,.int .u8 i.1.en,.bool i.1.di,.int .i64 i.1.fo,.bool i.1.sg,.int .i64 i.1.m,.int .i64 i.1.b,.int .i64 i.1.k1,.int .i64 i.1.k2,i.1.p.av,.int .u8 i.1.mk',.int .u8 i.1.r0,.int .u8 i.1.r1,.int .u8 i.1.r2,.int .u8 i.1.r3,.int .u8 i.1.r4,.int .u8 i.1.r5,.int .u8 i.1.hl,.int .u8 i.1.hu,.int .u16 i.1.st,.int .u16 i.1.as',.int .u16 i.1.de,.bool i.1.ho,.int .i64 i.1.sa],[.lst zz es,.int .i64 i.2]))
 | _,_=>none
def KAn:Ctr:= .ext true (Sq×Int) λcs xs=>match cs,xs with
 | [.lst zz es,.int .i64 a],[.int .u8 nu]=>some ((((zz= [.int .i64 0]∧es=i64s (decU es))∧es.length≤600)∧0≤a),λi=>(PreS nu i.1.se∧0≤i.2,.agg [.int .u8 i.1.nu,.int .u8 i.1.ty,.int .u8 i.1.un,.str i.1.nm,.int .u8 i.1.ei,.int .u8 i.1.en,.bool i.1.di,.int .i64 i.1.fo,.bool i.1.sg,.int .i64 i.1.m,.int .i64 i.1.b,.int .i64 i.1.k1,.int .i64 i.1.k2,i.1.p.av,.int .u8 i.1.mk',.int .u8 i.1.r0,.int .u8 i.1.r1,.int .u8 i.1.r2,.int .u8 i.1.r3,.int .u8 i.1.r4,.int .u8 i.1.r5,.int .u8 i.1.hl,.int .u8 i.1.hu,.int .u16 i.1.st,.int .u16 i.1.as',.int .u16 i.1.de,.bool i.1.ho,.int .i64 i.1.sa],[.lst zz es,.int .i64 i.2]))
 | _,_=>none
theorem walk28 (P61:Phi 61=some KNx)(P62:Phi 62=some KBy)(P63:Phi 63=some KTx)(P64:Phi 64=some KEn)(P65:Phi 65=some KBo)(P66:Phi 66=some KCv)(P67:Phi 67=some KTh)(L:List Int)(a:Int)(hl:L.length≤600)(ha:0≤a)(nu:Int):evC Phi (noI) rc28 ⟨initS (.ptr 0 0::[.int .u8 nu]),initM true [.lst [.int .i64 0] (i64s L),.int .i64 a]⟩ (kRetX rv28 true (λi:Sq×Int=>((i.1.di=true∨PreS nu i.1.se)∧0≤i.2,.agg [.int .u8 i.1.nu,.int .u8 i.1.ty,.int .u8 i.1.un,.str i.1.nm,.int .u8 i.1.ei,.int .u8 i.1.en,.bool i.1.di,.int .i64 i.1.fo,.bool i.1.sg,.int .i64 i.1.m,.int .i64 i.1.b,.int .i64 i.1.k1,.int .i64 i.1.k2,i.1.p.av,.int .u8 i.1.mk',.int .u8 i.1.r0,.int .u8 i.1.r1,.int .u8 i.1.r2,.int .u8 i.1.r3,.int .u8 i.1.r4,.int .u8 i.1.r5,.int .u8 i.1.hl,.int .u8 i.1.hu,.int .u16 i.1.st,.int .u16 i.1.as',.int .u16 i.1.de,.bool i.1.ho,.int .i64 i.1.sa],[.lst [.int .i64 0] (i64s L),.int .i64 i.2]))):=by
 simp (maxSteps:=2000000) only [rc28,pk,un,rv28,Nat.reduceMul,Nat.reduceAdd,Nat.reduceEqDiff,↓reduceIte,P61,KNx,Qg0,Int.reduceLE,P62,KBy,P63,KTx,Nat.reduceLeDiff,P64,KEn,P65,KBo,pv_lex,pv_pq,pv_frs,pv_wf,Nat.reduceBEq,P66,KCv,pv_unf,P67,KTh,pv_lk]
 have a1:=nxA_bd (L:=L) ha
 have a2:=nxA_bd (L:=L) a1
 have a3:=nxA_bd (L:=L) a2
 have a4:=nxA_bd (L:=L) a3
 have b16:=nxV_bd L (nxA L (nxA L (nxA L a))) (n:=16) (by decide) (by decide)
 rw [wr_in (1+nxV L (nxA L (nxA L (nxA L a))) 16) (by omega) (by omega)]
 refine ⟨⟨hl,ha⟩,⟨hl,a1⟩,⟨hl,a3⟩,⟨⟨hl,a4⟩,by omega,by omega⟩,?_⟩
 rintro ⟨nm,c⟩ ⟨hn,hm,c0⟩
 dsimp only at hn hm c0 ⊢
 have hnm:okN nm:=nm_ok (by omega) (by omega) hm
 have c1:=nxA_bd (L:=L) c0
 have c2:=nxA_bd (L:=L) c1
 have c3:=nxA_bd (L:=L) c2
 have c4:=nxA_bd (L:=L) c3
 have c5:=nxA_bd (L:=L) c4
 have c6:=nxA_bd (L:=L) c5
 have c7:=nxA_bd (L:=L) c6
 have c8:=nxA_bd (L:=L) c7
 refine ⟨⟨hl,c0⟩,⟨hl,c2⟩,⟨hl,c3⟩,λhd=>?_,λhd=>?_⟩
 · exact ⟨⟨hl,c4⟩,⟨hl,c5⟩,⟨hl,c6⟩,⟨hl,c7⟩,(⟨_,_,_,_,_,_,_,_,_,_,_,_,_,.nil,_,_,_,_,_,_,_,_,_,_,_,_,_,_⟩,_),⟨.inl rfl,c8⟩,⟨rfl,rfl,rfl,rfl,rfl,rfl,rfl,rfl,rfl,rfl,rfl,rfl,rfl,of_eq_true (NL.le NL.nil),rfl,rfl,rfl,rfl,rfl,rfl,rfl,rfl,rfl,rfl,rfl,rfl,rfl,rfl⟩,rfl⟩
 · have b3:=nxV_bd L (nxA L (nxA L (nxA L (nxA L c)))) (n:=3) (by decide) (by decide)
   rw [wr_in (2 * nxV L (nxA L (nxA L (nxA L (nxA L c)))) 3) (by omega) (by omega),wr_in (1+2 * nxV L (nxA L (nxA L (nxA L (nxA L c)))) 3) (by omega) (by omega)]
   have hsa:1+2 * nxV L (nxA L (nxA L (nxA L (nxA L c)))) 3=1∨1+2 * nxV L (nxA L (nxA L (nxA L (nxA L c)))) 3=3∨1+2 * nxV L (nxA L (nxA L (nxA L (nxA L c)))) 3=5:=by omega
   refine ⟨⟨hl,c4⟩,⟨hl,c5⟩,?_⟩
   rintro ⟨cv,p,e⟩ ⟨hcv,e0⟩
   dsimp only at hcv e0 ⊢
   refine ⟨⟨hl,e0⟩,?_⟩
   rintro w ⟨hmk,hq⟩
   have w0:=hq.1
   have w1:=nxA_bd (L:=L) w0
   have w2:=nxA_bd (L:=L) w1
   have w3:=nxA_bd (L:=L) w2
   have w4:=nxA_bd (L:=L) w3
   have w5:=nxA_bd (L:=L) w4
   have w6:=nxA_bd (L:=L) w5
   have w7:=nxA_bd (L:=L) w6
   have w8:=nxA_bd (L:=L) w7
   have g5:=nxV_bd L w.2.a (n:=5) (by decide) (by decide)
   have g6:=nxV_bd L (nxA L w.2.a) (n:=5) (by decide) (by decide)
   have hb5a:0≤IntKind.u8.wrap (nxV L w.2.a 5)∧IntKind.u8.wrap (nxV L w.2.a 5)≤255:=by rw [wr_u8 _ (by omega) (by omega)]; omega
   have hb5b:0≤IntKind.u8.wrap (nxV L (nxA L w.2.a) 5)∧IntKind.u8.wrap (nxV L (nxA L w.2.a) 5)≤255:=by rw [wr_u8 _ (by omega) (by omega)]; omega
   refine ⟨⟨hl,w0⟩,⟨hl,w1⟩,⟨hl,w2⟩,λhf=>⟨⟨hl,w3⟩,⟨hl,w5⟩,λhg=>⟨⟨hl,w6⟩,⟨hl,w7⟩,?_⟩,λhg=>?_⟩,λhf=>⟨⟨hl,w3⟩,λhg=>⟨⟨hl,w4⟩,⟨hl,w5⟩,?_⟩,λhg=>?_⟩⟩
   · refine ⟨(⟨_,_,_,_,_,_,_,_,_,_,_,_,_,_,_,_,_,_,_,_,_,_,_,_,_,_,_,_⟩,_),⟨.inr ?_,?_⟩,⟨rfl,rfl,rfl,rfl,rfl,rfl,rfl,rfl,rfl,rfl,rfl,rfl,rfl,of_eq_true (NL.le (PtV.nl _)),rfl,rfl,rfl,rfl,rfl,rfl,rfl,rfl,rfl,rfl,rfl,rfl,rfl,rfl⟩,rfl⟩
     · exact pre_mk w.2 hnm hsa hcv hmk hq hb5a (yV_bd L _)
     · exact w8
   · refine ⟨(⟨_,_,_,_,_,_,_,_,_,_,_,_,_,_,_,_,_,_,_,_,_,_,_,_,_,_,_,_⟩,_),⟨.inr ?_,?_⟩,⟨rfl,rfl,rfl,rfl,rfl,rfl,rfl,rfl,rfl,rfl,rfl,rfl,rfl,of_eq_true (NL.le (PtV.nl _)),rfl,rfl,rfl,rfl,rfl,rfl,rfl,rfl,rfl,rfl,rfl,rfl,rfl,rfl⟩,rfl⟩
     · exact pre_mk w.2 hnm hsa hcv hmk hq hb5a (yV_bd L _)
     · exact w6
   · refine ⟨(⟨_,_,_,_,_,_,_,_,_,_,_,_,_,_,_,_,_,_,_,_,_,_,_,_,_,_,_,_⟩,_),⟨.inr ?_,?_⟩,⟨rfl,rfl,rfl,rfl,rfl,rfl,rfl,rfl,rfl,rfl,rfl,rfl,rfl,of_eq_true (NL.le (PtV.nl _)),rfl,rfl,rfl,rfl,rfl,rfl,rfl,rfl,rfl,rfl,rfl,rfl,rfl,rfl⟩,rfl⟩
     · exact pre_mk w.2 hnm hsa hcv hmk hq hb5a hb5b
     · exact w6
   · refine ⟨(⟨_,_,_,_,_,_,_,_,_,_,_,_,_,_,_,_,_,_,_,_,_,_,_,_,_,_,_,_⟩,_),⟨.inr ?_,?_⟩,⟨rfl,rfl,rfl,rfl,rfl,rfl,rfl,rfl,rfl,rfl,rfl,rfl,rfl,of_eq_true (NL.le (PtV.nl _)),rfl,rfl,rfl,rfl,rfl,rfl,rfl,rfl,rfl,rfl,rfl,rfl,rfl,rfl⟩,rfl⟩
     · exact pre_mk w.2 hnm hsa hcv hmk hq hb5a hb5b
     · exact w4
structure K9a (L:List Int)(nu:Int) where
 a:Int
 k:Nat
 ha:0≤a
 hk:k≤3
def S9a (L:List Int)(nu:Int)(p:K9a L nu):SL:=⟨[(0,.ptr 0 0),(1,U nu),(4,.ptr 320 0),(5,Ii p.k)],[(0,.cells [.lst [Ii 0] (i64s L),Ii p.a]),(320,.cells zS)]⟩
abbrev L9a (L:List Int)(nu:Int):LI:=⟨K9a L nu,S9a L nu,λp=>3 - p.k,λp q=>True⟩
theorem L9aS (L:List Int)(nu:Int):(L9a L nu).S=S9a L nu:=rfl
theorem L9aR (L:List Int)(nu:Int)(p q:K9a L nu):(L9a L nu).R p q=(True):=rfl
def I9 (L:List Int)(nu:Int):Nat→LI:=λn=>L9a L nu
theorem I9_0 (L:List Int)(nu:Int):I9 L nu 0=L9a L nu:=rfl
theorem walk9 (P28:Phi 28=some KSe)(L:List Int)(a:Int)(hl:L.length≤600)(ha:0≤a)(nu:Int):evC Phi (I9 L nu) rc9 ⟨initS (.ptr 0 0::[.int .u8 nu]),initM true [.lst [.int .i64 0] (i64s L),.int .i64 a]⟩ (kRetX rv9 true (λi:Sq×Int=>(PreS nu i.1.se∧0≤i.2,.agg [.int .u8 i.1.nu,.int .u8 i.1.ty,.int .u8 i.1.un,.str i.1.nm,.int .u8 i.1.ei,.int .u8 i.1.en,.bool i.1.di,.int .i64 i.1.fo,.bool i.1.sg,.int .i64 i.1.m,.int .i64 i.1.b,.int .i64 i.1.k1,.int .i64 i.1.k2,i.1.p.av,.int .u8 i.1.mk',.int .u8 i.1.r0,.int .u8 i.1.r1,.int .u8 i.1.r2,.int .u8 i.1.r3,.int .u8 i.1.r4,.int .u8 i.1.r5,.int .u8 i.1.hl,.int .u8 i.1.hu,.int .u16 i.1.st,.int .u16 i.1.as',.int .u16 i.1.de,.bool i.1.ho,.int .i64 i.1.sa],[.lst [.int .i64 0] (i64s L),.int .i64 i.2]))):=by
 simp (maxSteps:=2000000) only [rc9,pk,un,rv9,Nat.reduceMul,Nat.reduceAdd,I9_0,L9aS,S9a,Nat.reduceEqDiff,↓reduceIte,L9aR,P28,KSe,Qg0,pv_wf,pv_frs,pv_unf,pv_k0,Nat.reduceLeDiff,pv_lk,pv_lex,pv_pq]
 refine ⟨⟨a,0,ha,by omega⟩,⟨rfl,rfl⟩,?_⟩
 rintro ⟨b,k,hb,hk⟩
 dsimp only
 refine ⟨λhc=>⟨⟨hl,hb⟩,?_⟩,λhc=>?_⟩
 · have hc:=of_decide_eq_true hc
   rintro ⟨s,c⟩ ⟨hs,h0⟩
   dsimp only at hs h0 ⊢
   refine ⟨λhd=>?_,λhd=>?_⟩
   · have hs:PreS nu s.se:=hs.resolve_left (λe=>by rw [e] at hd; exact absurd hd (by decide))
     exact ⟨(s,c),⟨hs,h0⟩,⟨rfl,rfl,rfl,rfl,rfl,rfl,rfl,rfl,rfl,rfl,rfl,rfl,rfl,of_eq_true (NL.le (PtV.nl _)),rfl,rfl,rfl,rfl,rfl,rfl,rfl,rfl,rfl,rfl,rfl,rfl,rfl,rfl⟩,rfl⟩
   · exact ⟨⟨c,k+1,h0,by omega⟩,⟨by rw [wr_succ _ (by omega)],rfl⟩,by dsimp only; omega⟩
 · exact ⟨(⟨nu,1,0,[120],0,0,false,1,false,1,0,0,0,.nil,63,30,20,10,200,210,220,2,3,0,63,63,false,1⟩,b),⟨pre_lit nu,hb⟩,⟨rfl,rfl,rfl,rfl,rfl,rfl,rfl,rfl,rfl,rfl,rfl,rfl,rfl,of_eq_true (NL.le NL.nil),rfl,rfl,rfl,rfl,rfl,rfl,rfl,rfl,rfl,rfl,rfl,rfl,rfl,rfl⟩,rfl⟩
theorem gr_of_gr {P:Program} {f:FuncId} {ι κ:Type} {ho ho':List Nat} {fz fz':Bool} {D:List (Nat×Blk)→List AV→Option (Prop×(ι→Prop×AV×List (Nat×Blk)))} {E:List (Nat×Blk)→List AV→Option (Prop×(κ→Prop×AV×List (Nat×Blk)))}(h:Sound P f (.gr ι ho fz D))
 (hd:∀ bs xs q g,E bs xs=some (q,g)→q→∃ q' g',D bs xs=some (q',g')∧q'∧∀ i,(g' i).1→∃ j,(g j).1∧(g j).2=(g' i).2):Sound P f (.gr κ ho' fz' E):=by
 intro Z w θ bs xs vs q g hz hgl hin hr hE hq
 obtain ⟨q',g',hD,hq',hj⟩:=hd bs xs q g hE hq
 refine (h Z w θ bs xs vs q' g' hz hgl hin hr hD hq').mono ?_
 rintro e w' ⟨i,v,Z',θ',h1,h2,h3,h4,h5,h6,h7,h8⟩
 obtain ⟨j,j1,j2⟩:=hj i h1
 exact ⟨j,v,Z',θ',j1,h2,h3,h4,h5,h6,by rw [j2]; exact h7,by rw [j2]; exact h8⟩
theorem s94:Sound Tryz.prog 94 CStep:=soundG (by kernel_rfl) Qb0 Tryz.func94 rfl rc94_ok rv94_ok (by
 intro bs xs q g h hq
 split at h
 · skip
   cases h
   generalize Dv.de bs=d at *
   subst hq
   exact ⟨noI,λ_ _=>rfl,Nat.le_of_ble_eq_true rfl,walk94  d⟩
 · cases h
 )
theorem s86:Sound Tryz.prog 86 CWth:=Qc0 (by kernel_rfl) Qb0 Tryz.func86 rfl rc86_ok rv86_ok (by
 intro xs q r cs' h hq
 split at h
 · rename_i zz c0 z es c2 c3 c4 c5 c6 a n
   cases h
   obtain ⟨rfl,⟨rfl,he⟩,hl⟩:=hq
   obtain ⟨L,rfl⟩:∃ L,es=u8s L:=⟨_,he⟩
   simp only [Qh0,u8s_len] at *
   exact ⟨noI,rfl,Nat.le_of_ble_eq_true rfl,walk86  (.int .i64 c0) c3 c4 c5 c2 c6 L a n hl⟩
 · cases h
 )
theorem s45:Sound Tryz.prog 45 CSec:=Qc0 (by kernel_rfl) Qb0 Tryz.func45 rfl rc45_ok rv45_ok (by
 intro xs q r cs' h hq
 split at h
 · rename_i zz c0 c1 z ws c3 c4 c5 c6
   cases h
   subst hq
   exact ⟨noI,rfl,Nat.le_of_ble_eq_true rfl,walk45  (.int .i64 c0) c1 c3 c4 c5 c6 z ws⟩
 · cases h
 )
theorem s47:Sound Tryz.prog 47 CSiz:=Qc0 (by kernel_rfl) Qb0 Tryz.func47 rfl rc47_ok rv47_ok (by
 intro xs q r cs' h hq
 split at h
 · rename_i zz sz c1 c2 c3 c4 c5 c6
   cases h
   subst hq
   exact ⟨noI,rfl,Nat.le_of_ble_eq_true rfl,walk47  sz c1 c2 c3 c4 c5 c6⟩
 · cases h
 )
theorem s92:Sound Tryz.prog 92 CDn:=Qc0 (by kernel_rfl) Qb0 Tryz.func92 rfl rc92_ok rv92_ok (by
 intro xs q r cs' h hq
 split at h
 · rename_i zz c0 c1 c2 c3 c4 c5 dn
   cases h
   subst hq
   exact ⟨noI,rfl,Nat.le_of_ble_eq_true rfl,walk92  dn c0 c1 c2 c3 c4 c5⟩
 · cases h
 )
theorem s87:Sound Tryz.prog 87 DCb:=Qy0 (by kernel_rfl) Qb0 Tryz.func87 rfl rc87_ok rv87_ok (by
 intro xs q g h hq
 split at h
 · rename_i zz es
   cases h
   obtain ⟨⟨rfl,he⟩,hl⟩:=hq
   obtain ⟨L,rfl⟩:∃ L,es=u8s L:=⟨_,he⟩
   simp only [Qh0,u8s_len] at *
   exact ⟨noI,Nat.le_of_ble_eq_true rfl,walk87  L hl⟩
 · cases h
 )
theorem s46x:Sound Tryz.prog 46 CRead:=soundG (by kernel_rfl) (Qa0 s86 (Qa0 s87 Qb0)) Tryz.func46 rfl rc46_ok rv46_ok (by
 intro bs xs q g h hq
 split at h
 · rename_i a n
   cases h
   obtain ⟨hb,hl,he⟩:=hq
   generalize Dv.de bs=d at *
   subst hb
   exact ⟨noI,λ_ _=>rfl,Nat.le_of_ble_eq_true rfl,walk46 rfl rfl d a n hl he⟩
 · cases h
 )
theorem s58x:Sound Tryz.prog 58 CProg:=soundG (by kernel_rfl) (Qa0 s86 (Qa0 s94 Qb0)) Tryz.func58 rfl rc58_ok rv58_ok (by
 intro bs xs q g h hq
 split at h
 · rename_i a z es
   cases h
   obtain ⟨hb,⟨rfl,he⟩,hl,hd⟩:=hq
   obtain ⟨L,rfl⟩:∃ L,es=u8s L:=⟨_,he⟩
   simp only [Qh0,u8s_len] at *
   generalize Dv.de bs=d at *
   subst hb
   exact ⟨I58 d a L,λ_ _=>rfl,Nat.le_of_ble_eq_true rfl,walk58 rfl rfl d a L hl hd⟩
 · cases h
 )
theorem s114x:Sound Tryz.prog 114 CEr:=soundG (by kernel_rfl) (Qa0 s94 Qb0) Tryz.func114 rfl rc114_ok rv114_ok (by
 intro bs xs q g h hq
 split at h
 · rename_i s
   cases h
   obtain ⟨hb,hl,hw,h0,h1,he⟩:=hq
   generalize Dv.de bs=d at *
   subst hb
   exact ⟨I114 d s,λ_ _=>rfl,Nat.le_of_ble_eq_true rfl,walk114 rfl d s hl hw h0 h1 he⟩
 · cases h
 )
theorem de_of_gr (d:Dv):Dv.de d.gr=d:=by simp only [Dv.gr,Dv.cs,Dv.de_gr,Qh0,Qg0,Dv.eta]
theorem s58:Sound Tryz.prog 58 CProgB:=gr_of_gr s58x (by
 intro bs xs q g h hq
 split at h
 · rename_i a z es
   cases h
   obtain ⟨hb,hz,hl,hd,hw⟩:=hq
   generalize hd0:(Dv.de bs).sd false=d0 at hb
   have e:Dv.de bs=d0:=by rw [hb]; exact de_of_gr d0
   have hdn:d0.dn=false:=by rw [← hd0]; rfl
   rw [e] at hd hw
   refine ⟨_,_,rfl,⟨by rw [e]; exact hb,hz,hl,by rw [e]; exact hd⟩,λ_ _=>?_⟩
   dsimp only
   rw [e]
   rcases Dv.prog_dn hdn hw with ⟨p1,p2⟩ | ⟨p1,p2⟩
   · exact ⟨false,p1,by rw [p1,Dv.sd_self p2]; rfl⟩
   · exact ⟨true,p1,by rw [p1,Dv.sd_self p2]; rfl⟩
 · cases h)
theorem s114:Sound Tryz.prog 114 CErB:=gr_of_gr s114x (by
 intro bs xs q g h hq
 split at h
 · rename_i s
   cases h
   obtain ⟨hb,ho,h0,h1⟩:=hq
   generalize hd0:(Dv.de bs).sd false=d0 at hb
   have e:Dv.de bs=d0:=by rw [hb]; exact de_of_gr d0
   have hdn:d0.dn=false:=by rw [← hd0]; rfl
   rw [e] at ho h1
   obtain ⟨o1,o2,o3,o4,o5⟩:=ho
   refine ⟨_,_,rfl,?_,λ_ _=>?_⟩
   · try dsimp only
     rw [e]
     exact ⟨hb,o1,o2,by omega,o4,o5⟩
   · try dsimp only
     rw [e]
     rcases Dv.erase_dn hdn ⟨h0,h1⟩ with ⟨p1,p2⟩ | ⟨p1,p2⟩
     · exact ⟨false,p1,by rw [p1,Dv.sd_self p2]; rfl⟩
     · exact ⟨true,p1,by rw [p1,Dv.sd_self p2]; rfl⟩
 · cases h)
theorem s46:Sound Tryz.prog 46 CReadB:=gr_of_gr s46x (by
 intro bs xs q g h hq
 split at h
 · rename_i a n
   cases h
   obtain ⟨hb,hl,hw⟩:=hq
   generalize hd0:(Dv.de bs).sd false=d0 at hb
   have e:Dv.de bs=d0:=by rw [hb]; exact de_of_gr d0
   have hdn:d0.dn=false:=by rw [← hd0]; rfl
   rw [e] at hl hw
   refine ⟨_,_,rfl,?_,λ_ _=>?_⟩
   · try dsimp only
     rw [e]
     exact ⟨hb,hl,by rw [Dv.rdE,if_neg (by rw [hdn]; decide),if_pos hw]⟩
   · try dsimp only
     rw [e]
     exact ⟨(),trivial,rfl⟩
 · cases h)
theorem s54:Sound Tryz.prog 54 CVE:=Qc0 (by kernel_rfl) Qb0 Tryz.func54 rfl rc54_ok rv54_ok (by
 intro xs q r cs' h hq
 split at h
 · rename_i id t g st sn ty de a b c
   cases h
   exact ⟨noI,rfl,Nat.le_of_ble_eq_true rfl,walk54  ⟨id,t,g,st,sn,ty,de,a,b,c⟩⟩
 · cases h
 )
theorem s57:Sound Tryz.prog 57 DEn:=Qy0 (by kernel_rfl) (Qa0 s54 Qb0) Tryz.func57 rfl rc57_ok rv57_ok (by
 intro xs q g h hq
 split at h
 · rename_i id t g st sn ty de a b c
   cases h
   exact ⟨noI,Nat.le_of_ble_eq_true rfl,walk57 rfl ⟨id,t,g,st,sn,ty,de,a,b,c⟩ hq⟩
 · cases h
 )
theorem s115x:Sound Tryz.prog 115 DW4:=Qy0 (by kernel_rfl) Qb0 Tryz.func115 rfl rc115_ok rv115_ok (by
 intro xs q g h hq
 split at h
 · rename_i n
   cases h
   exact ⟨noI,Nat.le_of_ble_eq_true rfl,walk115  n⟩
 · cases h
 )
theorem s115:Sound Tryz.prog 115 CW4:=own_of_ext s115x (by
 intro xs q es h
 split at h
 · cases h
   exact ⟨_,rfl,rfl⟩
 · cases h)
theorem s55:Sound Tryz.prog 55 CSl:=Qc0 (by kernel_rfl) Qb0 Tryz.func55 rfl rc55_ok rv55_ok (by
 intro xs q r cs' h hq
 split at h
 · rename_i x
   cases h
   exact ⟨noI,rfl,Nat.le_of_ble_eq_true rfl,walk55  x⟩
 · cases h
 )
theorem s59:Sound Tryz.prog 59 CBe:=Qc0 (by kernel_rfl) Qb0 Tryz.func59 rfl rc59_ok rv59_ok (by
 intro xs q r cs' h hq
 split at h
 · rename_i x
   cases h
   exact ⟨noI,rfl,Nat.le_of_ble_eq_true rfl,walk59  x⟩
 · cases h
 )
theorem s88:Sound Tryz.prog 88 CR4:=Qc0 (by kernel_rfl) Qb0 Tryz.func88 rfl rc88_ok rv88_ok (by
 intro xs q r cs' h hq
 split at h
 · rename_i zz es
   cases h
   obtain ⟨⟨rfl,he⟩,hl⟩:=hq
   obtain ⟨L,rfl⟩:∃ L,es=u8s L:=⟨_,he⟩
   simp only [Qh0,u8s_len] at *
   exact ⟨noI,rfl,Nat.le_of_ble_eq_true rfl,walk88  L hl⟩
 · cases h
 )
theorem s89:Sound Tryz.prog 89 CSlot:=Qc0 (by kernel_rfl) Qb0 Tryz.func89 rfl rc89_ok rv89_ok (by
 intro xs q r cs' h hq
 split at h
 · rename_i zz es i
   cases h
   obtain ⟨⟨rfl,he⟩,hl,h0,h1⟩:=hq
   obtain ⟨L,rfl⟩:∃ L,es=u8s L:=⟨_,he⟩
   simp only [Qh0,u8s_len] at *
   exact ⟨noI,rfl,Nat.le_of_ble_eq_true rfl,walk89  L i hl h0 h1⟩
 · cases h
 )
theorem s113:Sound Tryz.prog 113 CNf:=Qc0 (by kernel_rfl) Qb0 Tryz.func113 rfl rc113_ok rv113_ok (by
 intro xs q r cs' h hq
 split at h
 · rename_i x
   cases h
   exact ⟨noI,rfl,Nat.le_of_ble_eq_true rfl,walk113  x⟩
 · cases h
 )
theorem s126:Sound Tryz.prog 126 CIx:=Qc0 (by kernel_rfl) (Qa0 s113 Qb0) Tryz.func126 rfl rc126_ok rv126_ok (by
 intro xs q r cs' h hq
 split at h
 · rename_i zz es
   cases h
   obtain ⟨⟨rfl,he⟩,hl⟩:=hq
   obtain ⟨L,rfl⟩:∃ L,es=u8s L:=⟨_,he⟩
   simp only [Qh0,u8s_len] at *
   exact ⟨I126 L,rfl,Nat.le_of_ble_eq_true rfl,walk126 rfl L hl⟩
 · cases h
 )
theorem s112:Sound Tryz.prog 112 CCo:=Qc0 (by kernel_rfl) (Qa0 s126 Qb0) Tryz.func112 rfl rc112_ok rv112_ok (by
 intro xs q r cs' h hq
 split at h
 · rename_i zz es
   cases h
   obtain ⟨⟨rfl,he⟩,hl⟩:=hq
   obtain ⟨L,rfl⟩:∃ L,es=u8s L:=⟨_,he⟩
   simp only [Qh0,u8s_len] at *
   exact ⟨noI,rfl,Nat.le_of_ble_eq_true rfl,walk112 rfl L hl⟩
 · cases h
 )
theorem s90:Sound Tryz.prog 90 CBl:=Qc0 (by kernel_rfl) (Qa0 s112 Qb0) Tryz.func90 rfl rc90_ok rv90_ok (by
 intro xs q r cs' h hq
 split at h
 · rename_i zz es
   cases h
   obtain ⟨⟨rfl,he⟩,hl⟩:=hq
   obtain ⟨L,rfl⟩:∃ L,es=u8s L:=⟨_,he⟩
   simp only [Qh0,u8s_len] at *
   exact ⟨noI,rfl,Nat.le_of_ble_eq_true rfl,walk90 rfl L hl⟩
 · cases h
 )
theorem s111:Sound Tryz.prog 111 CMl:=Qc0 (by kernel_rfl) Qb0 Tryz.func111 rfl rc111_ok rv111_ok (by
 intro xs q r cs' h hq
 split at h
 · rename_i a b
   cases h
   obtain ⟨rfl,hb⟩:=hq
   exact ⟨noI,rfl,Nat.le_of_ble_eq_true rfl,walk111  b hb⟩
 · cases h
 )
theorem s85:Sound Tryz.prog 85 CMl:=Qc0 (by kernel_rfl) (Qa0 s111 Qb0) Tryz.func85 rfl rc85_ok rv85_ok (by
 intro xs q r cs' h hq
 split at h
 · rename_i a b
   cases h
   obtain ⟨rfl,hb⟩:=hq
   exact ⟨noI,rfl,Nat.le_of_ble_eq_true rfl,walk85 rfl b hb⟩
 · cases h
 )
theorem s44x:Sound Tryz.prog 44 DRp:=Qy0 (by kernel_rfl) (Qa0 s85 Qb0) Tryz.func44 rfl rc44_ok rv44_ok (by
 intro xs q g h hq
 split at h
 · rename_i zz es n
   cases h
   obtain ⟨⟨rfl,rfl⟩,hn⟩:=hq
   obtain ⟨c,rfl⟩:∃ c:Nat,n=c:=⟨n.toNat,by omega⟩
   simp only [Int.toNat_natCast] at *
   exact ⟨I44 c,Nat.le_of_ble_eq_true rfl,walk44 rfl c hn⟩
 · cases h
 )
theorem s44:Sound Tryz.prog 44 CRp:=own_of_ext s44x (by
 intro xs q es h
 split at h
 · cases h
   exact ⟨_,rfl,rfl⟩
 · cases h)
theorem s17:Sound Tryz.prog 17 CNewD:=soundG (by kernel_rfl) (Qa0 s44 Qb0) Tryz.func17 rfl rc17_ok rv17_ok (by
 intro bs xs q g h hq
 split at h
 · rename_i n sz
   cases h
   obtain ⟨rfl,h⟩:=hq
   exact ⟨noI,λ_ _=>rfl,Nat.le_of_ble_eq_true rfl,walk17 rfl n sz h⟩
 · cases h
 )
theorem s91:Sound Tryz.prog 91 CDc:=Qc0 (by kernel_rfl) (Qa0 s54 Qb0) Tryz.func91 rfl rc91_ok rv91_ok (by
 intro xs q r cs' h hq
 split at h
 · rename_i zz es
   cases h
   obtain ⟨⟨rfl,he⟩,hl⟩:=hq
   obtain ⟨L,rfl⟩:∃ L,es=u8s L:=⟨_,he⟩
   simp only [Qh0,u8s_len] at *
   exact ⟨noI,rfl,Nat.le_of_ble_eq_true rfl,walk91 rfl L hl⟩
 · cases h
 )
theorem s48:Sound Tryz.prog 48 CHd:=Qc0 (by kernel_rfl) (Qa0 s88 Qb0) Tryz.func48 rfl rc48_ok rv48_ok (by
 intro xs q r cs' h hq
 split at h
 · rename_i yy c0 c1 se c3 c4 c5 c6 c7 r c9 c10 c11 c12 zz es j
   cases h
   obtain ⟨rfl,⟨⟨rfl,he⟩,hl⟩,hs⟩:=hq
   obtain ⟨L,rfl⟩:∃ L,es=u8s L:=⟨_,he⟩
   simp only [Qh0,u8s_len] at *
   exact ⟨noI,rfl,Nat.le_of_ble_eq_true rfl,walk48 rfl c0 c1 c3 c4 c5 c6 c7 c9 c10 c11 c12 se r L j hl hs⟩
 · cases h
 )
theorem s23:Sound Tryz.prog 23 CLen:=Qc0 (by kernel_rfl) Qb0 Tryz.func23 rfl rc23_ok rv23_ok (by
 intro xs q r cs' h hq
 split at h
 · rename_i yy c0 c1 se c3 c4 c5 c6 c7 c9 c10 c11 c12
   cases h
   subst hq
   exact ⟨noI,rfl,Nat.le_of_ble_eq_true rfl,walk23n c0 c1 c3 c4 c5 c6 c7 c9 c10 c11 c12 se⟩
 · rename_i yy c0 c1 se c3 c4 c5 c6 c7 zz es c9 c10 c11 c12
   cases h
   subst hq
   exact ⟨noI,rfl,Nat.le_of_ble_eq_true rfl,walk23l c0 c1 c3 c4 c5 c6 c7 c9 c10 c11 c12 se zz es⟩
 · cases h
 )
theorem s117:Sound Tryz.prog 117 CLt:=Qc0 (by kernel_rfl) Qb0 Tryz.func117 rfl rc117_ok rv117_ok (by
 intro xs q r cs' h hq
 split at h
 · rename_i q id t g st sn ty de a b c k' k
   cases h
   exact ⟨noI,rfl,Nat.le_of_ble_eq_true rfl,walk117  ⟨q,⟨id,t,g,st,sn,ty,de,a,b,c⟩⟩ k k'⟩
 · cases h
 )
theorem walk93r (P47:Phi 47=some CSiz)(P46:Phi 46=some CReadB)(P90:Phi 90=some CBl)(P114:Phi 114=some CErB)(P115:Phi 115=some CW4)(P58:Phi 58=some CProgB)(P116:Phi 116=some CDf)(g:Lg)(d:Dv)(t:Int)(h:okG g d)(hk:keeps g.rs t):evC Phi (noI) rc93 ⟨initS [.ptr 0 0,.int .i64 t],lookM (grR g (d.sd false))⟩ (kRetG rv93 (λb=>((opn g (d.sd false) t).1=eno b,.int .i64 (eno b),match b with | false=>grR (g.op t) ((opn g (d.sd false) t).2.sd false) | true=>grR g ((opn g (d.sd false) t).2.sd true)))):=by
 simp (maxSteps:=2000000) only [rc93,bA93_47,bO93_47,bB93_47,bA93_88,bO93_88,bB93_88,grR,Lg.cs,Dv.cs,Dv.sd_sz,Dv.sd_st,Dv.sd_lf,Dv.sd_to,Dv.sd_dn,Dv.sd_by,Dv.sd_wr,rv93,pk,un,Nat.reduceMul,Nat.reduceAdd,Nat.reduceEqDiff,↓reduceIte,↓Bool.exists_bool,eno_f,eno_t,P47,CSiz,barl93_47,P46,CReadB,Dv.gr,Nat.reduceLT,Nat.reduceLeDiff,Nat.reduceBEq,Dv.de_gr,Qh0,Qg0,Dv.sd_mk,Option.isSome_some,P90,CBl,Bool.not_not,P114,CErB,↓Bool.forall_bool,barl93_88,P115,CW4,u8s_join,u8s_snoc2,P58,CProgB,decU_cons,decU_nil,P116,CDf,decR_rcs,rcs_len,dec10]
 have ho:=opS_bd h
 obtain ⟨⟨h1,h2,h3,h4,h5⟩,h6,h7,h8,h9,h10,h11,h12⟩:=id h
 have e1:IntKind.i64.wrap (g.nw+1) =g.nw+1:=wr_in _ (by omega) (by omega)
 have e2:IntKind.i64.wrap (g.nw+1 - 1) =g.nw:=by rw [wr_in _ (by omega) (by omega)]; omega
 have e3:IntKind.i64.wrap (g.fi+g.nw.tmod g.se) =opS g:=wr_in _ (by have:=ho.1; unfold opS at this; omega) (by have:=ho.2.1; unfold opS at this; omega)
 have e4:IntKind.i64.wrap (opS g * d.sz) =opS g * d.sz:=wr_in _ (by omega) (by omega)
 have e5:IntKind.i64.wrap (opS g * d.sz+10) =opS g * d.sz+10:=wr_in _ (by omega) (by omega)
 have e6:w4 (g.nw+1) ++ w4 t ++ [IntKind.u8.wrap g.nx,IntKind.u8.wrap (g.nx.fdiv (2 ^ 8))] =opH g t:=rfl
 simp only [e1,e2,e3,e4,e5,e6]
 have hA:opA g (d.sd false) =opS g * d.sz:=rfl
 have hR:((d.sd false).rdB (opS g * d.sz) d.sz).length≤1000000:=by
  unfold Dv.rdB
  split
  · exact Nat.zero_le _
  · split
    · simp only [List.length_take,List.length_drop,Dv.sd_by]; omega
    · exact Nat.zero_le _
 refine ⟨λh0=>absurd (of_decide_eq_true h0) (by omega),λ_=>⟨by omega,⟨h1,Dv.wth_of ho.2.2.1 (by omega) ho.2.2.2 h1⟩,λ_=>⟨hR,λhb=>⟨⟨⟨h1,h2,h3,h4,h5⟩,ho.1,ho.2.1⟩,λhE=>?_,λhE=>?_⟩,λhb=>?_⟩⟩⟩
 · have hd:((d.sd false).erase (opS g)).2.dn=false:=by
    rcases Dv.erase_dn (d:=d.sd false) (s:=opS g) rfl ⟨ho.1,ho.2.1⟩ with ⟨_,h'⟩ | ⟨h',_⟩
    · exact h'
    · omega
   have hle:((d.sd false).erase (opS g)).2.by'.length=d.by'.length:=(Dv.erase_len (d.sd false) (opS g)).1
   rw [Dv.sd_self hd]
   have hw1:((d.sd false).erase (opS g)).2.wth (opS g * d.sz) ((opH g t).length:Nat) =true:=Dv.wth_of ho.2.2.1 (by omega) (by rw [opH_len]; omega) (by omega)
   have hl:(((d.sd false).erase (opS g)).2.prog (opS g * d.sz) (opH g t)).2.by'.length=d.by'.length:=(Dv.prog_len ((d.sd false).erase (opS g)).2 (opS g * d.sz) (opH g t)).1.trans hle
   refine ⟨by simp [w4],by simp [w4],by simp [w4],by simp [w4],⟨by rw [opH_len]; decide,by show ((d.sd false).erase (opS g)).2.by'.length≤1000000; omega,hw1⟩,λhp=>?_,λhp=>?_⟩
   · have hq:(((d.sd false).erase (opS g)).2.prog (opS g * d.sz) (opH g t)).2.dn=false:=by
      rcases Dv.prog_dn (a:=opS g * d.sz) (l:=opH g t) hd hw1 with ⟨_,h'⟩ | ⟨h',_⟩
      · exact h'
      · omega
     rw [Dv.sd_self hq]
     refine ⟨⟨rfl,by rw [hl]; exact h1,Dv.wth_of (by omega) (by omega) (by rw [hl]; omega) (by rw [hl]; exact h1)⟩,λhx=>?_,λhx=>?_⟩
     · have hm:opn g (d.sd false) t=(((d.sd false).erase (opS g)).2.prog (opS g * d.sz) (opH g t)).2.prog (opS g * d.sz+10) [0]:=(opn_1 hb hE).trans (op2_t hp)
       refine ⟨⟨h12,hk⟩,?_⟩
       simp only [hm,hx,Lg.op,and_self,true_or,forall_const]
     · have hm:opn g (d.sd false) t=(((d.sd false).erase (opS g)).2.prog (opS g * d.sz) (opH g t)).2.prog (opS g * d.sz+10) [0]:=(opn_1 hb hE).trans (op2_t hp)
       simp only [hm,hx,Lg.op,and_self,or_true,forall_const]
   · have hm:opn g (d.sd false) t=((d.sd false).erase (opS g)).2.prog (opS g * d.sz) (opH g t):=(opn_1 hb hE).trans (op2_f hp)
     simp only [hm,hp,Lg.op,and_self,or_true,forall_const]
 · have hm:opn g (d.sd false) t=(d.sd false).erase (opS g):=opn_2 hb hE
   simp only [hm,hE,Lg.op,and_self,or_true,forall_const]
 · have hle:(d.sd false).by'.length=d.by'.length:=rfl
   have hw1:(d.sd false).wth (opS g * d.sz) ((opH g t).length:Nat) =true:=Dv.wth_of ho.2.2.1 (by omega) (by rw [opH_len]; omega) (by omega)
   have hl:((d.sd false).prog (opS g * d.sz) (opH g t)).2.by'.length=d.by'.length:=(Dv.prog_len (d.sd false) (opS g * d.sz) (opH g t)).1.trans hle
   refine ⟨by simp [w4],by simp [w4],by simp [w4],by simp [w4],⟨by rw [opH_len]; decide,by show (d.sd false).by'.length≤1000000; omega,hw1⟩,λhp=>?_,λhp=>?_⟩
   · have hq:((d.sd false).prog (opS g * d.sz) (opH g t)).2.dn=false:=by
      rcases Dv.prog_dn (a:=opS g * d.sz) (l:=opH g t) (rfl:(d.sd false).dn=false) hw1 with ⟨_,h'⟩ | ⟨h',_⟩
      · exact h'
      · omega
     rw [Dv.sd_self hq]
     refine ⟨⟨rfl,by rw [hl]; exact h1,Dv.wth_of (by omega) (by omega) (by rw [hl]; omega) (by rw [hl]; exact h1)⟩,λhx=>?_,λhx=>?_⟩
     · have hm:opn g (d.sd false) t=((d.sd false).prog (opS g * d.sz) (opH g t)).2.prog (opS g * d.sz+10) [0]:=(opn_3 hb).trans (op2_t hp)
       refine ⟨⟨h12,hk⟩,?_⟩
       simp only [hm,hx,Lg.op,and_self,true_or,forall_const]
     · have hm:opn g (d.sd false) t=((d.sd false).prog (opS g * d.sz) (opH g t)).2.prog (opS g * d.sz+10) [0]:=(opn_3 hb).trans (op2_t hp)
       simp only [hm,hx,Lg.op,and_self,or_true,forall_const]
   · have hm:opn g (d.sd false) t=(d.sd false).prog (opS g * d.sz) (opH g t):=(opn_3 hb).trans (op2_f hp)
     simp only [hm,hp,Lg.op,and_self,or_true,forall_const]
structure K49a (g:Lg)(d:Dv)(b:List Int)(h:Hd) where
 i:Nat
 hi:(i:Int)≤slD b.length
def S49a (g:Lg)(d:Dv)(b:List Int)(h:Hd)(p:K49a g d b h):SL:=⟨[(0,.ptr 0 0),(1,.lst [U 0] (u8s b)),(5,.ptr 384 0),(6,.bool (lst' g h)),(26,Ii (slD b.length)),(27,Ii p.i)],[(0,.cells ((ldN g b h p.i).cs (.vw 3200 0 0 0))),(1,.cells (d.cs 33 34)),(384,.cells [Ii h.s,Ii h.t,.int .u16 h.i]),(3200,.buf 148 zA (rcs (ldN g b h p.i).rs)),(33,.buf 5 [U 0] (u8s d.by')),(34,.buf 3 [Ii 0] (i64s d.wr))]⟩
abbrev L49a (g:Lg)(d:Dv)(b:List Int)(h:Hd):LI:=⟨K49a g d b h,S49a g d b h,λp=>(slD b.length).toNat - p.i,λp q=>True⟩
theorem L49aS (g:Lg)(d:Dv)(b:List Int)(h:Hd):(L49a g d b h).S=S49a g d b h:=rfl
theorem L49aR (g:Lg)(d:Dv)(b:List Int)(h:Hd)(p q:K49a g d b h):(L49a g d b h).R p q=(True):=rfl
def I49 (g:Lg)(d:Dv)(b:List Int)(h:Hd):Nat→LI:=λn=>L49a g d b h
theorem I49_0 (g:Lg)(d:Dv)(b:List Int)(h:Hd):I49 g d b h 0=L49a g d b h:=rfl
theorem walk49 (P55:Phi 55=some CSl)(P59:Phi 59=some CBe)(P89:Phi 89=some CSlot)(P90:Phi 90=some CBl)(P91:Phi 91=some CDc)(g:Lg)(d:Dv)(b:List Int)(h:Hd)(h1:62≤b.length)(h2:b.length≤1024)(h3:g.rs.length≤1000000):evC Phi (I49 g d b h) rc49 ⟨initS [.ptr 0 0,.lst [.int .u8 0] (u8s b),.agg [.int .i64 h.s,.int .i64 h.t,.int .u16 h.i]],lookM (grA g d 1048576 33 34)⟩ (kRetG rv49 (λ(_ :Unit)=>(True,.tup [],grA (ldG g b h) d 3200 33 34))):=by
 simp (maxSteps:=2000000) only [rc49,grA,Lg.cs,Dv.cs,rv49,pk,un,Nat.reduceAdd,↓reduceIte,Nat.reduceMul,Nat.reduceEqDiff,Nat.reduceLeDiff,P55,CSl,I49_0,L49aS,S49a,Nat.reduceBEq,L49aR,P89,CSlot,Qh0,P90,CBl,Bool.not_not,Int.reduceLE,Int.reduceToNat,Zx0,P91,CDc,Ev.cs,Nat.reduceLT,rcs_len,rcs_app,P59,CBe,exists_const]
 obtain ⟨s1,s2,s3⟩:=slD_bd (z:=b.length) (by omega) (by omega)
 simp only [Nat.sub_zero]
 refine ⟨λhL _=>⟨⟨0,by omega⟩,?_,?_⟩,λhL _=>⟨⟨0,by omega⟩,?_,?_⟩⟩
 · have e:ldN g b h 0=g.sn h.i:=by unfold ldN; rw [if_pos (show lst' g h=true from hL)]
   dsimp only
   rw [e]
   exact ⟨⟨rfl,rfl⟩,⟨rfl,rfl,rfl,rfl,rfl,rfl,rfl,rfl,rfl,rfl⟩,rfl⟩
 · rintro ⟨i,hi⟩
   dsimp only
   refine ⟨λhc=>?_,λhc=>?_⟩
   · have hc:=of_decide_eq_true hc
     have hwi:IntKind.i64.wrap ((i:Int)+1) =(i:Int)+1:=wr_in _ (by omega) (by omega)
     have hsl:(slot b i).length=17:=slot_len (by omega)
     have hrl:=ldN_len g b h i
     refine ⟨⟨h2,by omega,by omega⟩,λ_=>by omega,λhu=>?_,λhu=>?_⟩
     · have hU:ldU (ldN g b h i) (lst' g h) (slot b i) i=(ldN g b h i).su (i+1):=by rw [ldU,if_pos hu]
       refine ⟨by omega,by rw [List.length_take]; omega,by omega,λ_=>⟨λhb=>?_,λhb=>⟨by omega,by omega,λhl=>?_,λhl=>?_⟩⟩⟩
       · have hb:bad (slot b i) =true:=hb
         exact ⟨⟨i+1,by omega⟩,⟨congrArg _ (wr_succ i (by omega)),by dsimp only; rw [ldN_s,ldS,hU,if_pos hb]; simp only [hwi,Lg.su,Lg.sn,Lg.sr,and_self]⟩,by dsimp only; omega⟩
       · have hb:bad (slot b i) =false:=hb
         exact ⟨⟨i+1,by omega⟩,⟨congrArg _ (wr_succ i (by omega)),by dsimp only; rw [ldN_s,ldS,hU,if_neg (by rw [hb]; decide),if_pos hl]; simp only [hwi,Lg.su,Lg.sn,Lg.sr,and_self]⟩,by dsimp only; omega⟩
       · rw [hl] at hu; cases hu
     · have hU:ldU (ldN g b h i) (lst' g h) (slot b i) i=ldN g b h i:=by rw [ldU,if_neg (by rw [hu]; decide)]
       refine ⟨by omega,by rw [List.length_take]; omega,by omega,λ_=>⟨λhb=>?_,λhb=>⟨by omega,by omega,λhl=>?_,λhl=>?_⟩⟩⟩
       · have hb:bad (slot b i) =true:=hb
         exact ⟨⟨i+1,by omega⟩,⟨congrArg _ (wr_succ i (by omega)),by dsimp only; rw [ldN_s,ldS,hU,if_pos hb]; simp only [hwi,Lg.su,Lg.sn,Lg.sr,and_self]⟩,by dsimp only; omega⟩
       · have hb:bad (slot b i) =false:=hb
         exact ⟨⟨i+1,by omega⟩,⟨congrArg _ (wr_succ i (by omega)),by dsimp only; rw [ldN_s,ldS,hU,if_neg (by rw [hb]; decide),if_pos hl]; simp only [hwi,Lg.su,Lg.sn,Lg.sr,and_self]⟩,by dsimp only; omega⟩
       · have hb:bad (slot b i) =false:=hb
         exact ⟨⟨i+1,by omega⟩,⟨congrArg _ (wr_succ i (by omega)),by dsimp only; rw [ldN_s,ldS,hU,if_neg (by rw [hb]; decide),if_neg (by rw [hl]; decide)]; simp only [hwi,Lg.su,Lg.sn,Lg.sr,and_self]⟩,by dsimp only; omega⟩
   · have hc:=of_decide_eq_false hc
     have hi:i=(slD b.length).toNat:=by omega
     subst hi
     simp only [ldG,and_self]
 · have e:ldN g b h 0=g:=by unfold ldN; rw [if_neg]; rw [lst',hL]; decide
   dsimp only
   rw [e]
   exact ⟨⟨rfl,rfl⟩,⟨rfl,rfl,rfl,rfl,rfl,rfl,rfl,rfl,rfl,rfl⟩,rfl⟩
 · rintro ⟨i,hi⟩
   dsimp only
   refine ⟨λhc=>?_,λhc=>?_⟩
   · have hc:=of_decide_eq_true hc
     have hwi:IntKind.i64.wrap ((i:Int)+1) =(i:Int)+1:=wr_in _ (by omega) (by omega)
     have hsl:(slot b i).length=17:=slot_len (by omega)
     have hrl:=ldN_len g b h i
     refine ⟨⟨h2,by omega,by omega⟩,λ_=>by omega,λhu=>?_,λhu=>?_⟩
     · have hU:ldU (ldN g b h i) (lst' g h) (slot b i) i=(ldN g b h i).su (i+1):=by rw [ldU,if_pos hu]
       refine ⟨by omega,by rw [List.length_take]; omega,by omega,λ_=>⟨λhb=>?_,λhb=>⟨by omega,by omega,λhl=>?_,λhl=>?_⟩⟩⟩
       · have hb:bad (slot b i) =true:=hb
         exact ⟨⟨i+1,by omega⟩,⟨congrArg _ (wr_succ i (by omega)),by dsimp only; rw [ldN_s,ldS,hU,if_pos hb]; simp only [hwi,Lg.su,Lg.sn,Lg.sr,and_self]⟩,by dsimp only; omega⟩
       · have hb:bad (slot b i) =false:=hb
         exact ⟨⟨i+1,by omega⟩,⟨congrArg _ (wr_succ i (by omega)),by dsimp only; rw [ldN_s,ldS,hU,if_neg (by rw [hb]; decide),if_pos hl]; simp only [hwi,Lg.su,Lg.sn,Lg.sr,and_self]⟩,by dsimp only; omega⟩
       · rw [hl] at hu; cases hu
     · have hU:ldU (ldN g b h i) (lst' g h) (slot b i) i=ldN g b h i:=by rw [ldU,if_neg (by rw [hu]; decide)]
       refine ⟨by omega,by rw [List.length_take]; omega,by omega,λ_=>⟨λhb=>?_,λhb=>⟨by omega,by omega,λhl=>?_,λhl=>?_⟩⟩⟩
       · have hb:bad (slot b i) =true:=hb
         exact ⟨⟨i+1,by omega⟩,⟨congrArg _ (wr_succ i (by omega)),by dsimp only; rw [ldN_s,ldS,hU,if_pos hb]; simp only [hwi,Lg.su,Lg.sn,Lg.sr,and_self]⟩,by dsimp only; omega⟩
       · have hb:bad (slot b i) =false:=hb
         exact ⟨⟨i+1,by omega⟩,⟨congrArg _ (wr_succ i (by omega)),by dsimp only; rw [ldN_s,ldS,hU,if_neg (by rw [hb]; decide),if_pos hl]; simp only [hwi,Lg.su,Lg.sn,Lg.sr,and_self]⟩,by dsimp only; omega⟩
       · have hb:bad (slot b i) =false:=hb
         exact ⟨⟨i+1,by omega⟩,⟨congrArg _ (wr_succ i (by omega)),by dsimp only; rw [ldN_s,ldS,hU,if_neg (by rw [hb]; decide),if_neg (by rw [hl]; decide)]; simp only [hwi,Lg.su,Lg.sn,Lg.sr,and_self]⟩,by dsimp only; omega⟩
   · have hc:=of_decide_eq_false hc
     have hi:i=(slD b.length).toNat:=by omega
     subst hi
     simp only [ldG,and_self]
theorem walk16 (n m:Int)(hm:m≠0):evC Phi (noI) rc16 ⟨initS [Ii n,Ii m],initM false []⟩ (kRet rv16 (Ii (modI n m)) false []):=by
 simp (maxSteps:=2000000) only [rc16,pk,un,rv16,Nat.reduceEqDiff,↓reduceIte]
 exact ⟨hm,λh=>AV.int_inj' (by simp only [modI,if_pos (of_decide_eq_true h)]),λh=>AV.int_inj' (by simp only [modI,if_neg (of_decide_eq_false h)])⟩
theorem s53:Sound Tryz.prog 53 CDwn:=soundG (by kernel_rfl) (Qa0 s92 Qb0) Tryz.func53 rfl rc53_ok rv53_ok (by
 intro bs xs q g h hq
 generalize deG bs=G at h
 generalize deD bs=D at h
 split at h
 · split at h
   · cases h
     rw [hq]
     exact ⟨noI,λ_ _=>rfl,Nat.le_of_ble_eq_true rfl,walk53r rfl G D⟩
   · cases h
 · cases h
 )
theorem s127:Sound Tryz.prog 127 CIr:=soundG (by kernel_rfl) (Qa0 s117 Qb0) Tryz.func127 rfl rc127_ok rv127_ok (by
 intro bs xs q g h hq
 split at h
 · split at h
   · rename_i zz es k' t
     cases h
     obtain ⟨hb,hl,hk⟩:=hq
     rw [hb]
     have hn:es.length=(decR es).length:=(List.length_map _).symm
     rw [hn] at hl
     generalize decR es=L at *
     exact ⟨I127 L t,λ_ _=>rfl,Nat.le_of_ble_eq_true rfl,walk127r rfl L t hl hk⟩
   · cases h
 · cases h
 )
theorem s116:Sound Tryz.prog 116 CDf:=soundG (by kernel_rfl) (Qa0 s127 (Qa0 s117 Qb0)) Tryz.func116 rfl rc116_ok rv116_ok (by
 intro bs xs q g h hq
 split at h
 · split at h
   · rename_i zz es k' t
     cases h
     obtain ⟨hb,hl,hk⟩:=hq
     rw [hb]
     have hn:es.length=(decR es).length:=(List.length_map _).symm
     rw [hn] at hl
     generalize decR es=L at *
     exact ⟨noI,λ_ _=>rfl,Nat.le_of_ble_eq_true rfl,walk116r rfl rfl L t hl hk⟩
   · cases h
 · cases h
 )
theorem s93:Sound Tryz.prog 93 COp:=soundG (by kernel_rfl) (Qa0 s47 (Qa0 s46 (Qa0 s90 (Qa0 s114 (Qa0 s115 (Qa0 s58 (Qa0 s116 Qb0))))))) Tryz.func93 rfl rc93_ok rv93_ok (by
 intro bs xs q g h hq
 generalize deG bs=G at h
 generalize deD bs=D at h
 split at h
 · split at h
   · rename_i t _ _ _ _ _ _
     cases h
     obtain ⟨hb,ho,hk⟩:=hq
     rw [hb]
     exact ⟨noI,λ_ _=>rfl,Nat.le_of_ble_eq_true rfl,walk93r rfl rfl rfl rfl rfl rfl rfl G D t ho hk⟩
   · cases h
 · cases h
 )
theorem s56:Sound Tryz.prog 56 CGw:=soundG (by kernel_rfl) (Qa0 s93 Qb0) Tryz.func56 rfl rc56_ok rv56_ok (by
 intro bs xs q g h hq
 generalize deG bs=G at h
 generalize deD bs=D at h
 split at h
 · split at h
   · cases h
     obtain ⟨hb,ho,hk⟩:=hq
     rw [hb]
     exact ⟨noI,λ_ _=>rfl,Nat.le_of_ble_eq_true rfl,walk56r rfl G D ho hk⟩
   · cases h
 · cases h
 )
theorem s24:Sound Tryz.prog 24 CAdd:=soundG (by kernel_rfl) (Qa0 s53 (Qa0 s54 (Qa0 s47 (Qa0 s55 (Qa0 s56 (Qa0 s57 (Qa0 s58 (Qa0 s59 Qb0)))))))) Tryz.func24 rfl rc24_ok rv24_ok (by
 intro bs xs q g h hq
 generalize deG bs=G at h
 generalize deD bs=D at h
 split at h
 · split at h
   · rename_i id t g st sn ty de a b c _ _ _ _ _ _
     cases h
     obtain ⟨hb,ho⟩:=hq
     rw [hb]
     exact ⟨noI,λk _=>by cases k<;>rfl,Nat.le_of_ble_eq_true rfl,walk24r rfl rfl rfl rfl rfl rfl rfl rfl G D ⟨id,t,g,st,sn,ty,de,a,b,c⟩ ho⟩
   · cases h
 · cases h
 )
theorem s49:Sound Tryz.prog 49 CLd:=soundG (by kernel_rfl) (Qa0 s55 (Qa0 s59 (Qa0 s89 (Qa0 s90 (Qa0 s91 Qb0))))) Tryz.func49 rfl rc49_ok rv49_ok (by
 intro bs xs q g h hq
 generalize deG bs=G at h
 generalize deD bs=D at h
 split at h
 · split at h
   · rename_i x s t i _ _ _ _ _ _
     cases h
     obtain ⟨hb,hx,h1,h2,h3⟩:=hq
     rw [hb]
     generalize avB x=B at *
     subst hx
     exact ⟨I49 G D B ⟨s,t,i⟩,λ_ _=>rfl,Nat.le_of_ble_eq_true rfl,walk49 rfl rfl rfl rfl rfl G D B ⟨s,t,i⟩ h1 h2 h3⟩
   · cases h
 · cases h
 )
theorem s18:Sound Tryz.prog 18 COpen:=soundG (by kernel_rfl) (Qa0 s45 (Qa0 s46 (Qa0 s47 (Qa0 s48 (Qa0 s49 Qb0))))) Tryz.func18 rfl rc18_ok rv18_ok (by
 intro bs xs q g h hq
 split at h
 · rename_i fi se ov
   cases h
   obtain ⟨hb,ho⟩:=hq
   generalize Dv.de bs=d at *
   subst hb
   exact ⟨I18 d fi se ov,λ_ _=>rfl,Nat.le_of_ble_eq_true rfl,walk18 rfl rfl rfl rfl rfl d fi se ov ho⟩
 · cases h
 )
theorem s16:Sound Tryz.prog 16 CM:=Qc0 (by kernel_rfl) Qb0 Tryz.func16 rfl rc16_ok rv16_ok (by
 intro xs q r cs' h hq
 split at h
 · rename_i n m
   cases h
   exact ⟨noI,rfl,Nat.le_of_ble_eq_true rfl,walk16  n m hq⟩
 · cases h
 )
theorem s61:Sound Tryz.prog 61 KNx:=Zq0 (by kernel_rfl) (Qa0 s16 Qb0) Tryz.func61 rfl rc61_ok rv61_ok (by
 intro cs xs q r cs' h hq
 split at h
 · rename_i zz es a n
   cases h
   obtain ⟨⟨⟨⟨rfl,g1⟩,gl⟩,ga⟩,gn,gm⟩:=hq
   obtain ⟨L,rfl⟩:∃ L,es=i64s L:=⟨_,g1⟩
   simp only [Qg0,Qx0] at *
   exact ⟨noI,rfl,rfl,Nat.le_of_ble_eq_true rfl,walk61 rfl L a gl ga n gn gm⟩
 · cases h
 )
theorem s65:Sound Tryz.prog 65 KBo:=Zq0 (by kernel_rfl) (Qa0 s61 Qb0) Tryz.func65 rfl rc65_ok rv65_ok (by
 intro cs xs q r cs' h hq
 split at h
 · rename_i zz es a n
   cases h
   obtain ⟨⟨⟨⟨rfl,g1⟩,gl⟩,ga⟩,gn,gm⟩:=hq
   obtain ⟨L,rfl⟩:∃ L,es=i64s L:=⟨_,g1⟩
   simp only [Qg0,Qx0] at *
   exact ⟨noI,rfl,rfl,Nat.le_of_ble_eq_true rfl,walk65 rfl L a gl ga n gn gm⟩
 · cases h
 )
theorem s62:Sound Tryz.prog 62 KBy:=Zq0 (by kernel_rfl) (Qa0 s61 (Qa0 s65 Qb0)) Tryz.func62 rfl rc62_ok rv62_ok (by
 intro cs xs q r cs' h hq
 split at h
 · rename_i zz es a
   cases h
   obtain ⟨⟨⟨rfl,g1⟩,gl⟩,ga⟩:=hq
   obtain ⟨L,rfl⟩:∃ L,es=i64s L:=⟨_,g1⟩
   simp only [Qg0,Qx0] at *
   exact ⟨noI,rfl,rfl,Nat.le_of_ble_eq_true rfl,walk62 rfl rfl L a gl ga⟩
 · cases h
 )
theorem s97:Sound Tryz.prog 97 KMi:=Zq0 (by kernel_rfl) (Qa0 s61 Qb0) Tryz.func97 rfl rc97_ok rv97_ok (by
 intro cs xs q r cs' h hq
 split at h
 · rename_i zz es a
   cases h
   obtain ⟨⟨⟨rfl,g1⟩,gl⟩,ga⟩:=hq
   obtain ⟨L,rfl⟩:∃ L,es=i64s L:=⟨_,g1⟩
   simp only [Qg0,Qx0] at *
   exact ⟨noI,rfl,rfl,Nat.le_of_ble_eq_true rfl,walk97 rfl L a gl ga⟩
 · cases h
 )
theorem s64:Sound Tryz.prog 64 KEn:=Zq0 (by kernel_rfl) (Qa0 s61 Qb0) Tryz.func64 rfl rc64_ok rv64_ok (by
 intro cs xs q r cs' h hq
 split at h
 · rename_i zz es a
   cases h
   obtain ⟨⟨⟨rfl,g1⟩,gl⟩,ga⟩:=hq
   obtain ⟨L,rfl⟩:∃ L,es=i64s L:=⟨_,g1⟩
   simp only [Qg0,Qx0] at *
   exact ⟨noI,rfl,rfl,Nat.le_of_ble_eq_true rfl,walk64 rfl L a gl ga⟩
 · cases h
 )
theorem s95:Sound Tryz.prog 95 KLe:=Qc0 (by kernel_rfl) Qb0 Tryz.func95 rfl rc95_ok rv95_ok (by
 intro xs q r cs' h hq
 split at h
 · rename_i sg
   cases h
   exact ⟨noI,rfl,Nat.le_of_ble_eq_true rfl,walk95  sg⟩
 · cases h
 )
theorem s96:Sound Tryz.prog 96 KRw:=Qc0 (by kernel_rfl) Qb0 Tryz.func96 rfl rc96_ok rv96_ok (by
 intro xs q r cs' h hq
 split at h
 · rename_i x
   cases h
   exact ⟨noI,rfl,Nat.le_of_ble_eq_true rfl,walk96  x hq⟩
 · cases h
 )
theorem s98:Sound Tryz.prog 98 KHas:=Qc0 (by kernel_rfl) Qb0 Tryz.func98 rfl rc98_ok rv98_ok (by
 intro xs q r cs' h hq
 split at h
 · rename_i m k
   cases h
   exact ⟨noI,rfl,Nat.le_of_ble_eq_true rfl,walk98  m k hq⟩
 · cases h
 )
theorem s7:Sound Tryz.prog 7 KLig:=Qc0 (by kernel_rfl) Qb0 Tryz.func7 rfl rc7_ok rv7_ok (by
 intro xs q r cs' h hq
 split at h
 · rename_i zz es
   cases h
   exact ⟨noI,rfl,Nat.le_of_ble_eq_true rfl,walk7  zz es⟩
 · cases h
 )
theorem s8:Sound Tryz.prog 8 KRol:=Qy0 (by kernel_rfl) Qb0 Tryz.func8 rfl rc8_ok rv8_ok (by
 intro xs q g h hq
 split at h
 · rename_i zz es
   cases h
   obtain ⟨rfl,g1⟩:=hq
   obtain ⟨L,rfl⟩:∃ L,es=i64s L:=⟨_,g1⟩
   simp only [Qg0,Qx0] at *
   exact ⟨noI,Nat.le_of_ble_eq_true rfl,walk8  L⟩
 · cases h
 )
theorem s63:Sound Tryz.prog 63 KTx:=Zk0 (by kernel_rfl) (Qa0 s61 Qb0) Tryz.func63 rfl rc63_ok rv63_ok (by
 intro cs xs q g h hq
 split at h
 · rename_i zz es a al n
   cases h
   obtain ⟨⟨⟨⟨⟨rfl,g1⟩,gl⟩,ga⟩,g2,g3⟩,gn,gm⟩:=hq
   obtain ⟨L,rfl⟩:∃ L,es=i64s L:=⟨_,g1⟩
   simp only [Qg0,Qx0] at *
   exact ⟨I63 L al n,λ_ _=>rfl,Nat.le_of_ble_eq_true rfl,walk63 rfl L a gl ga al n g2 g3 gn gm⟩
 · cases h
 )
theorem s66:Sound Tryz.prog 66 KCv:=Zk0 (by kernel_rfl) (Qa0 s61 (Qa0 s65 (Qa0 s95 (Qa0 s96 (Qa0 s97 Qb0))))) Tryz.func66 rfl rc66_ok rv66_ok (by
 intro cs xs q g h hq
 split at h
 · rename_i zz es a
   cases h
   obtain ⟨⟨⟨rfl,g1⟩,gl⟩,ga⟩:=hq
   obtain ⟨L,rfl⟩:∃ L,es=i64s L:=⟨_,g1⟩
   simp only [Qg0,Qx0] at *
   exact ⟨I66 L (decide (nxV L (nxA L a) 2=2 - 1)) (2+nxV L (nxA L (nxA L a)) 11),λ_ _=>rfl,Nat.le_of_ble_eq_true rfl,walk66 rfl rfl rfl rfl rfl L a gl ga⟩
 · cases h
 )
theorem s67:Sound Tryz.prog 67 KTh:=Zk0 (by kernel_rfl) (Qa0 s61 (Qa0 s95 (Qa0 s96 (Qa0 s98 Qb0)))) Tryz.func67 rfl rc67_ok rv67_ok (by
 intro cs xs q g h hq
 split at h
 · rename_i zz es a sg
   cases h
   obtain ⟨⟨⟨rfl,g1⟩,gl⟩,ga⟩:=hq
   obtain ⟨L,rfl⟩:∃ L,es=i64s L:=⟨_,g1⟩
   simp only [Qg0,Qx0] at *
   exact ⟨I67 L sg (nxV L a 64),λ_ _=>rfl,Nat.le_of_ble_eq_true rfl,walk67 rfl rfl rfl rfl L a gl ga sg⟩
 · cases h
 )
theorem s28:Sound Tryz.prog 28 KSe:=Zk0 (by kernel_rfl) (Qa0 s61 (Qa0 s62 (Qa0 s63 (Qa0 s64 (Qa0 s65 (Qa0 s66 (Qa0 s67 Qb0))))))) Tryz.func28 rfl rc28_ok rv28_ok (by
 intro cs xs q g h hq
 split at h
 · rename_i zz es a nu
   cases h
   obtain ⟨⟨⟨rfl,g1⟩,gl⟩,ga⟩:=hq
   obtain ⟨L,rfl⟩:∃ L,es=i64s L:=⟨_,g1⟩
   simp only [Qg0,Qx0] at *
   exact ⟨noI,λ_ _=>rfl,Nat.le_of_ble_eq_true rfl,walk28 rfl rfl rfl rfl rfl rfl rfl L a gl ga nu⟩
 · cases h
 )
theorem s9:Sound Tryz.prog 9 KAn:=Zk0 (by kernel_rfl) (Qa0 s28 Qb0) Tryz.func9 rfl rc9_ok rv9_ok (by
 intro cs xs q g h hq
 split at h
 · rename_i zz es a nu
   cases h
   obtain ⟨⟨⟨rfl,g1⟩,gl⟩,ga⟩:=hq
   obtain ⟨L,rfl⟩:∃ L,es=i64s L:=⟨_,g1⟩
   simp only [Qg0,Qx0] at *
   exact ⟨I9 L nu,λ_ _=>rfl,Nat.le_of_ble_eq_true rfl,walk9 rfl L a gl ga nu⟩
 · cases h
 )
end Go.Proofs.YthgmdkokaflgjaaGreatDoor
