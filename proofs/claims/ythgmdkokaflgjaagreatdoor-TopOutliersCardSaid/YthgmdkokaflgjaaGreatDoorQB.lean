/- A part of the proof; no condition. -/
import Derived.Test.YthgmdkokaflgjaaGreatDoorQA
import Derived.Laws.IdiomStrings
import Derived.Laws.Strings
import Derived.Laws.Cover3
import Derived.WideKeyRuns
import Derived.WideMake
import Derived.Laws.Strings2
import Derived.Laws.Concat
set_option linter.unusedSimpArgs false
set_option linter.unusedVariables false
set_option linter.unusedSectionVars false
namespace Go.Ev
open Go Go.RowKit
structure Grow (Z:Nat→Prop)(w:World)(Z':Nat→Prop)(w':World):Prop where
 sub:∀ b,Z b→Z' b
 new:∀ b,Z' b→Z b∨w.heap.size≤b
 lt:∀ b,Z' b→b < w'.heap.size
theorem FrameBut.mono {P Q:Nat→Prop} {w w':World}(h:FrameBut P w w')(hpq:∀ b,P b→Q b):FrameBut Q w w':=
 ⟨h.os,h.tape,h.output,h.size,λk hk hn=>h.block k hk λhp=>hn (hpq k hp)⟩
theorem Mem.fin {X:Cx} {Z':Nat→Prop} {w':World} {θ:Nat→Value} {m:Nat→Option Blk}(h:Mem X Z' w' θ m)(hg:X.gw=nob0):FrameBut X.wr X.w0 w'∧Grow X.Z0 X.w0 Z' w':=
 ⟨h.frame.mono λb hb=>hb.elim (λx=>x) λx=>(by rw [hg] at x; exact x.elim),h.zin,λb hb=>(h.znew b hb).imp (λx=>x) λx=>x.elim (λy=>y) λy=>(by rw [hg] at y; exact y.elim),h.zlt⟩
structure FrOK (Z':Nat→Prop)(w w':World)(θ:Nat→Value)(l:List (Nat×Blk)):Prop where
 rep:∀ j blk,(j,blk)∈l→BRep Z' w' θ j blk
 new:∀ j blk,(j,blk)∈l→∀ b,bk (θ j) =some b→w.heap.size≤b
 dis:∀ j blk j' blk',(j,blk)∈l→(j',blk')∈l→∀ b,bk (θ j) =some b→bk (θ j') =some b→j=j'
def told0:AV→AV
 | .fr j _ _ _=> .vw j 0 0 0
 | .fp j _=> .ptr j 0
 | .int k n=> .int k n
 | .bool b=> .bool b
 | .str s=> .str s
 | .lst z es=> .lst z es
 | .fn f=> .fn f
 | .nil=> .nil
 | _=> .junk
def told1:AV→AV
 | .agg cs=> .agg (cs.map told0)
 | x=>told0 x
def told2:AV→AV
 | .tup vs=> .tup (vs.map told1)
 | x=>told1 x
structure OwnRow (Z':Nat→Prop)(w w':World)(T:Nat)(z:List AV)(es:List (List AV))(v:Value):Prop where
 z0:z≠ []
 rows:∀ e∈es,e.length=z.length
 sl:∃ ad n c,v= .slice ad n c
 new:∀ b,bk v=some b→w.heap.size≤b∧¬ Z' b
 own:∃ us,w'.ownsRow 0 T z.length v es.length us∧Cells Z' w' th0 es.flatten us
structure InOK (Z:Nat→Prop)(w:World)(θ:Nat→Value)(bs:List (Nat×Blk)):Prop where
 nod:(bs.map (·.1)).Nodup
 rep:∀ x∈bs,BRep Z w θ x.1 x.2
 dis:∀ x∈bs,∀ y∈bs,∀ b,bk (θ x.1) =some b→bk (θ y.1) =some b→x.1=y.1
structure OutOK (Z':Nat→Prop)(w w':World)(θ θ':Nat→Value)(bs outs:List (Nat×Blk)):Prop where
 rep:∀ x∈outs,BRep Z' w' θ' x.1 x.2
 dis:∀ x∈outs,∀ y∈outs,∀ b,bk (θ' x.1) =some b→bk (θ' y.1) =some b→x.1=y.1
 own:∀ x∈outs,∀ b,bk (θ' x.1) =some b→x.1 < 64∨w.heap.size≤b∨∃ y∈bs,64≤y.1∧bk (θ y.1) =some b
 fix:∀ j,j < 64→θ' j=θ j
def Sound (P:Program)(f:FuncId):Ctr→Prop
 | .ext false ι fn=>∀ (Z:Nat→Prop) (w:World) (xs:List AV) (vs:List Value) (q:Prop) (g:ι→Prop×AV×List AV),(∀ b,Z b→b < w.heap.size)→Glb Z w→Reps Z w th0 xs vs→fn [] xs=some (q,g)→q→
  Calls P f vs.toArray w λe w'=>∃ i v Z' θ,(g i).1∧e= .returned v∧FrameBut nob0 w w'∧Grow Z w Z' w'∧Rep Z' w' θ (told2 (g i).2.1) v∧FrOK Z' w w' θ (frs2 (g i).2.1)
 | .ext true ι fn=>∀ (Z:Nat→Prop) (w:World) (b:Nat) (T:TypeId) (cs:List AV) (us:List Value) (xs:List AV) (vs:List Value) (q:Prop) (g:ι→Prop×AV×List AV),(∀ b,Z b→b < w.heap.size)→Glb Z w→
  w.heap[b]? =some (.cells us.toArray T (0,0))→¬ Z b→Cells Z w th0 cs us→Reps Z w th0 xs vs→fn cs xs=some (q,g)→q→
  Calls P f (pt b::vs).toArray w λe w'=>∃ i v Z' θ T' us',(g i).1∧e= .returned v∧FrameBut (λk=>k=b) w w'∧Grow Z w Z' w'∧w'.heap[b]? =some (.cells (List.toArray us') T' (0,0))∧Cells Z' w' th0 (g i).2.2 us'∧Rep Z' w' θ (told2 (g i).2.1) v∧FrOK Z' w w' θ (frs2 (g i).2.1)
 | .gr ι _ _ fn=>∀ (Z:Nat→Prop) (w:World) (θ:Nat→Value) (bs:List (Nat×Blk)) (xs:List AV) (vs:List Value) (q:Prop) (g:ι→Prop×AV×List (Nat×Blk)),(∀ b,Z b→b < w.heap.size)→Glb Z w→InOK Z w θ bs→Reps Z w θ xs vs→fn bs xs=some (q,g)→q→
  Calls P f vs.toArray w λe w'=>∃ i v Z' θ',(g i).1∧e= .returned v∧FrameBut (λb=>∃ x∈bs,bk (θ x.1) =some b) w w'∧(∀ b,Z b→Z' b)∧(∀ b,Z' b→Z b∨w.heap.size≤b∨∃ x∈bs,64≤x.1∧bk (θ x.1) =some b)∧(∀ b,Z' b→b < w'.heap.size)∧Rep Z' w' θ' (g i).2.1 v∧OutOK Z' w w' θ θ' bs (g i).2.2
 | .own T z fn=>∀ (Z:Nat→Prop) (w:World) (xs:List AV) (vs:List Value) (q:Prop) (es:List (List AV)),(∀ b,Z b→b < w.heap.size)→Glb Z w→Reps Z w th0 xs vs→fn xs=some (q,es)→q→
  Calls P f vs.toArray w λe w'=>∃ v Z',e= .returned v∧FrameBut nob0 w w'∧Grow Z w Z' w'∧OwnRow Z' w w' T z es v
 | .mk false fn=>∀ (Z:Nat→Prop) (w:World) (xs:List AV) (vs:List Value) (q:Prop) (r:AV) (cs':List AV),(∀ b,Z b→b < w.heap.size)→Glb Z w→Reps Z w th0 xs vs→fn [] xs=some (q,r,cs')→q→
  Calls P f vs.toArray w λe w'=>∃ v Z',e= .returned v∧FrameBut nob0 w w'∧Grow Z w Z' w'∧Rep Z' w' th0 r v
 | .mk true fn=>∀ (Z:Nat→Prop) (w:World) (b:Nat) (T:TypeId) (cs:List AV) (us:List Value) (xs:List AV) (vs:List Value) (q:Prop) (r:AV) (cs':List AV),(∀ b,Z b→b < w.heap.size)→Glb Z w→
  w.heap[b]? =some (.cells us.toArray T (0,0))→¬ Z b→Cells Z w th0 cs us→Reps Z w th0 xs vs→fn cs xs=some (q,r,cs')→q→
  Calls P f (pt b::vs).toArray w λe w'=>∃ v Z' T' us',e= .returned v∧FrameBut (λk=>k=b) w w'∧Grow Z w Z' w'∧w'.heap[b]? =some (.cells (List.toArray us') T' (0,0))∧Cells Z' w' th0 cs' us'∧Rep Z' w' th0 r v
section
variable {P:Program} {X:Cx} {Z:Nat→Prop} {w:World} {θ:Nat→Value} {a:Act} {σ:St} {p:List (Nat×Bool)}
theorem Cells.of_th0 {cs:List AV} {vs:List Value}(h:Cells Z w th0 cs vs)(θ:Nat→Value):Cells Z w θ cs vs:=
 ⟨h.len,h.at1,h.one,λi c v hc hv=>(h.rep i c v hc hv).of_th0 rfl θ⟩
theorem Ze0 (w:World)(b:Nat)(cs:List Value)(T:TypeId)(vs:Array Value)(h:w.heap[b]? =some (.cells vs T (0,0))):(w.setRow b cs.toArray).heap[b]? =some (.cells cs.toArray T (0,0)):=by
 simp [World.setRow,Array.getElem?_modify,h]
theorem Ql0 (w:World)(b k:Nat)(cs:Array Value)(h:k≠b):(w.setRow b cs).heap[k]? =w.heap[k]?:=by
 simp only [World.setRow,Array.getElem?_modify]
 rw [if_neg (by omega)]
theorem flatten_get {α:Type} {es:List (List α)} {n:Nat}(hz:∀ e∈es,e.length=n) {i j:Nat} {e:List α}(hi:es[i]? =some e)(hj:j < n):es.flatten[i * n+j]? =e[j]?:=by
 induction es generalizing i with
 | nil=>simp at hi
 | cons x es ih=>
   have hx:=hz x (by simp)
   cases i with
   | zero=>
     simp at hi; subst hi
     rw [List.flatten_cons,Nat.zero_mul,Nat.zero_add,List.getElem?_append_left (by omega)]
   | succ i=>
     simp at hi
     rw [List.flatten_cons,List.getElem?_append_right (by rw [hx,Nat.add_mul]; omega)]
     rw [show (i+1) * n+j - x.length=i * n+j by rw [hx,Nat.add_mul]; omega]
     exact ih (λe he=>hz e (by simp [he])) hi
theorem Qv0 {α:Type} {es:List (List α)} {n:Nat}(hz:∀ e∈es,e.length=n):es.flatten.length=es.length * n:=by
 induction es with
 | nil=>simp
 | cons x es ih=>
   rw [List.flatten_cons,List.length_append,ih (λe he=>hz e (by simp [he])),hz x (by simp),List.length_cons,Nat.add_mul]
   omega
theorem flatten_set {n:Nat}:∀ {es:List (List AV)}(hz:∀ e∈es,e.length=n) {i:Nat} {ds:List AV}(hd:ds.length=n)(hi:i < es.length),(es.set i ds).flatten=setCells es.flatten (i * n) ds:=by
 intro es
 induction es with
 | nil=>intro _ i ds _ hi; simp at hi
 | cons x es ih=>
   intro hz i ds hd hi
   have hx:=hz x (by simp)
   have hl:=Qv0 (es:=x::es) hz
   have hmul:i * n+n≤(es.length+1) * n:=by
    have:=Nat.mul_le_mul_right n (show i+1≤es.length+1 by simp at hi; omega)
    rw [Nat.add_mul] at this; omega
   rw [Zg0 _ _ _ (by rw [hl,hd]; simpa using hmul)]
   cases i with
   | zero=>simp [hd,← hx]
   | succ i=>
     rw [List.set_cons_succ,List.flatten_cons,ih (λe he=>hz e (by simp [he])) hd (by simpa using hi),Zg0 _ _ _ (by
      rw [Qv0 (λe he=>hz e (by simp [he])),hd]
      have:=Nat.mul_le_mul_right n (show i+1≤es.length by simp at hi; omega)
      rw [Nat.add_mul] at this; omega),List.flatten_cons]
     have e1:(i+1) * n=x.length+i * n:=by rw [hx,Nat.add_mul]; omega
     rw [e1,List.take_length_add_append,Nat.add_assoc,List.drop_length_add_append]
     simp
theorem dtd {α:Type}(G:List α)(m n:Nat)(h:m≤n):(G.take n).drop m ++ G.drop n=G.drop m:=by
 rw [List.drop_take]
 conv=>rhs; rw [← List.take_append_drop (n - m) (G.drop m)]
 rw [List.drop_drop,show m+(n - m) =n by omega]
theorem flatten_put {n:Nat} {z:List AV} {es:List (List AV)}(hz:∀ e∈es,e.length=n) {i off:Nat} {vs:List AV}(ho:off+vs.length≤n)(hi:i < es.length):
 (es.set i (setCells (getE z es i) off vs)).flatten=setCells es.flatten (i * n+off) vs:=by
 have hrow:(getE z es i).length=n:=by
  have:getE z es i=es[i]:=by simp [getE,List.getD,List.getElem?_eq_getElem hi]
  rw [this]; exact hz _ (List.getElem_mem hi)
 have hl:=Qv0 hz
 have hmul:i * n+n≤es.length * n:=by
  have:=Nat.mul_le_mul_right n (show i+1≤es.length by omega)
  rw [Nat.add_mul] at this; omega
 rw [flatten_set hz (by rw [Zl0,hrow]) hi]
 rw [Zg0 _ _ _ (by rw [Zl0,hrow,hl]; omega),Zl0,hrow,Zg0 vs (getE z es i) off (by rw [hrow]; exact ho),Zg0 vs es.flatten (i * n+off) (by rw [hl]; omega)]
 rw [← flat_row (z:=z) hz hi,List.take_add]
 have e1:((es.flatten.drop (i * n)).take n).take off=(es.flatten.drop (i * n)).take off:=by rw [List.take_take,Nat.min_eq_left (by omega)]
 have e2:((es.flatten.drop (i * n)).take n).drop (off+vs.length) ++ es.flatten.drop (i * n+n) =es.flatten.drop (i * n+off+vs.length):=by
  have d1:es.flatten.drop (i * n+n) =(es.flatten.drop (i * n)).drop n:=by rw [List.drop_drop]
  have d2:es.flatten.drop (i * n+off+vs.length) =(es.flatten.drop (i * n)).drop (off+vs.length):=by rw [List.drop_drop,Nat.add_assoc]
  rw [d1,d2]
  exact dtd _ _ _ ho
 rw [e1]
 simp only [List.append_assoc]
 rw [e2]
theorem take_put {α:Type} {C us:List α} {o N:Nat}(h:o+us.length≤N)(hN:N≤C.length):(C.take o ++ us ++ C.drop (o+us.length)).take N=(C.take N).take o ++ us ++ (C.take N).drop (o+us.length):=by
 rw [List.take_take,Nat.min_eq_left (by omega),List.drop_take,List.take_append,List.length_append,List.length_take,Nat.min_eq_left (by omega:o≤C.length),List.take_of_length_le (by simp; omega)]
variable (hs:∀ k,SRep Z w θ a.tmps (σ.s k) (a.tmps.getD k undef))(hp:pathT a.tmps p)
include hs hp
theorem ok_storeB {o:Oper} {d:Nat}(hm:Mem X Z w θ σ.m) {t:TypeId} {x v:Operand}(ho:o.op= .store t x v) {n:Nat}(hn:sizeP P t=some n) {x' v':A}(hx:compA x=some x')(hv:compA v=some v') {vv:AV}(hrv:Rep Z w θ vv (a.eval v))
 {r0 sz i off:Nat} (hrx:Rep Z w θ (.bp r0 sz i off) (a.eval x)) {ds:List AV} (hds:cellsOfAV n vv=some ds) {T:Nat} {z:List AV} {es:List (List AV)} (hmr:σ.m r0=some (.buf T z es)) (hsz:z.length=sz) (hcl:ds.all AV.clean0=true) (hle:off+n≤z.length) (hi:i < es.length):
 OpOK P X Z w θ σ.m a o d ⟨[i < es.length],[],.junk,[(r0,.buf T z (es.set i (setCells (getE z es i) off ds)))],none,[r0]⟩:=by
 subst hsz
 obtain ⟨hdl,us,hus,hcu⟩:=Qw0 hds hrv
 obtain ⟨hz0,hz,xs,hown,hnz,hcs⟩:=hm.brep r0 _ hmr
 have hul:us.length=n:=by rw [hcu.len,hdl]
 generalize ex:a.eval x=u at hrx
 cases hrx with
 | bp _ _ _ _ _ b o0 nn c hθ=>
   have hown0:=hown
   rw [hθ] at hown
   obtain rfl:=row_off hown
   simp only [Nat.zero_add] at ex
   rcases hown.2 with ⟨h,_⟩ | ⟨g,cap,cur,hvv,_,hheap,hnc,hcm,hcsz,htake⟩
   · cases h
   · simp only [Value.slice.injEq,sI,Addr.mk.injEq,and_true,true_and] at hvv
     obtain ⟨rfl,rfl,rfl⟩:=hvv
     have hmul:i * z.length+z.length≤es.length * z.length:=by
      have:=Nat.mul_le_mul_right z.length (show i+1≤es.length by omega)
      rw [Nat.add_mul] at this; omega
     have hcap:es.length * z.length≤c * z.length:=Nat.mul_le_mul_right _ hnc
     have hrun:(execOp a.eval o).run P w= .ok .skip (w.setRow b (cur.toList.take (i * z.length+off) ++ us ++ cur.toList.drop (i * z.length+off+us.length)).toArray):=by
      have hst:=run_storeCells_at P b (i * z.length+off) T us 0 cur w hheap (by rw [hcsz,hul]; omega) hcu.one
      simp only [Nat.add_zero] at hst
      simp [execOp,ho,ex,Instr.storeAt,Instr.sureAddr,storeVar,Qm0 hn,hus,hul,hst]
     intro K Q hK
     refine wp_skip_op hrun (hK _ Z _ θ ?_)
     have hst:=hm.stepW (w':=w.setRow b (cur.toList.take (i * z.length+off) ++ us ++ cur.toList.drop (i * z.length+off+us.length)).toArray) (m':=updL σ.m [(r0,.buf T z (es.set i (setCells (getE z es i) off ds)))]) (some r0) (λ_ h=>h) (λ_ h=> .inl h)
      (λb hb=>by simpa using hm.zlt b hb) rfl rfl rfl (by simp) (λk hk hne=>Ql0 w b k _ (by
       intro e; subst e; exact hne r0 rfl (by rw [hθ]; rfl))) (λr' hr'=>by
       have:r'≠r0:=λe=>hr' (by rw [e])
       simp [updL,updM,this]) (λr' hr'=>by
       simp only [sI] at hr'; subst hr'
       refine ⟨by simp [hmr],λblk hblk=>?_⟩
       simp [updL,updM] at hblk
       subst hblk
       have g:Goes Z w Z (w.setRow b (cur.toList.take (i * z.length+off) ++ us ++ cur.toList.drop (i * z.length+off+us.length)).toArray):=⟨λ_ h=>h,λk hk=>Ql0 w b k _ (by intro e; subst e; exact hnz k (by rw [hθ]; rfl) hk)⟩
       refine ⟨hz0,?_,(xs.take (i * z.length+off) ++ us ++ xs.drop (i * z.length+off+us.length)),?_,hnz,?_⟩
       · intro e he
         rcases List.mem_or_eq_of_mem_set he with h | h
         · exact hz e h
         · rw [h,Zl0]
           have:getE z es i=es[i]:=by simp [getE,List.getD,List.getElem?_eq_getElem hi]
           rw [this]; exact hz _ (List.getElem_mem hi)
       · rw [hθ,List.length_set]
         have hxl:=hown.1
         refine ⟨?_,.inr ⟨b,c,_,rfl,Nat.zero_le _,Ze0 w b _ T _ hheap,hnc,hcm,?_,?_⟩⟩
         · simp only [List.length_append,List.length_take,List.length_drop,hxl]
           rw [hul]; omega
         · simp only [List.size_toArray,List.length_append,List.length_take,List.length_drop,Array.length_toList]
           rw [hcsz,hul]; omega
         · rw [List.toList_toArray,take_put (by rw [hul]; omega) (by rw [show cur.toList.length=cur.size from Array.length_toList,hcsz]; exact hcap),htake]
       · rw [flatten_put hz (by rw [hdl]; exact hle) hi]
         exact (hcs.set (hcu.th_clean hcl th0) (by rw [Qv0 hz,hdl]; omega)).step g)
     exact ⟨.junk _ _,hst.2,λ_ _=>rfl,hst.1,by simp⟩
theorem ok_store {o:Oper} {d:Nat}(hm:Mem X Z w θ σ.m) {t:TypeId} {x v:Operand}(ho:o.op= .store t x v) {n:Nat}(hn:sizeP P t=some n) {x' v':A}(hx:compA x=some x')(hv:compA v=some v') {r:Res}
 (he:bind2 (av σ p x') (av σ p v') (storeR σ.m n) =some r) (hpre:∀ q∈r.pre,q):OpOK P X Z w θ σ.m a o d r:=by
 obtain ⟨ax,vv,hax,hvv,h⟩:=Qd0 he
 have hrx:=av_rep hs hp hx hax
 have hrv:=av_rep hs hp hv hvv
 unfold storeR at h
 split at h<;>try (cases h; done)
 case h_2 r0 sz i off=>
  split at h<;>try (cases h; done)
  rename_i ds T z es hds hmr
  split at h<;>try (cases h; done)
  rename_i hc
  simp only [Bool.and_eq_true,beq_iff_eq,decide_eq_true_eq] at hc
  simp only [sI] at h; subst h
  exact ok_storeB hs hp hm ho hn hx hv hrv hrx hds hmr hc.1 hc.2.1 hc.2.2 (hpre _ (by simp))
 rename_i r0 off
 split at h<;>try (cases h; done)
 rename_i ds cs hds hmr
 split at h<;>try (cases h; done)
 rename_i hle
 simp only [sI] at h; subst h
 obtain ⟨hdl,us,hus,hcu⟩:=Qw0 hds hrv
 obtain ⟨b,T,vs,hθ,hheap,hnZ,hcs⟩:=hm.brep r0 _ hmr
 have hul:us.length=n:=by rw [hcu.len,hdl]
 generalize ex:a.eval x=u at hrx
 cases hrx with
 | ptr _ _ _ b' hθ'=>
   rw [hθ] at hθ'; simp at hθ'; subst hθ'
   have hrun:(execOp a.eval o).run P w= .ok .skip (w.setRow b (vs.take off ++ us ++ vs.drop (off+us.length)).toArray):=by
    have hst:=run_storeCells_at P b off T us 0 vs.toArray w hheap (by simp [hcs.len,hul]; omega) hcu.one
    simp only [Nat.add_zero,List.toList_toArray] at hst
    simp [execOp,ho,ex,Instr.storeAt,Instr.sureAddr,storeVar,Qm0 hn,hus,hul,hst]
   intro K Q hK
   refine wp_skip_op hrun (hK _ Z _ θ ?_)
   have hlt:=Qn0 hheap
   have hst:=hm.stepW (w':=w.setRow b (vs.take off ++ us ++ vs.drop (off+us.length)).toArray) (m':=updL σ.m [(r0,.cells (setCells cs off ds))]) (some r0) (λ_ h=>h) (λ_ h=> .inl h)
    (λb hb=>by simpa using hm.zlt b hb) rfl rfl rfl (by simp) (λk hk hne=>Ql0 w b k _ (by
     intro e; subst e; exact hne r0 rfl (by rw [hθ]; rfl))) (λr' hr'=>by
     have:r'≠r0:=λe=>hr' (by rw [e])
     simp [updL,updM,this]) (λr' hr'=>by
     simp only [sI] at hr'; subst hr'
     refine ⟨by simp [hmr],λblk hblk=>?_⟩
     simp [updL,updM] at hblk
     subst hblk
     have g:Goes Z w Z (w.setRow b (vs.take off ++ us ++ vs.drop (off+us.length)).toArray):=⟨λ_ h=>h,λk hk=>Ql0 w b k _ (by intro e; subst e; exact hnZ hk)⟩
     exact ⟨b,T,_,hθ,Ze0 w b _ T _ hheap,hnZ,(hcs.set hcu (by rw [hdl]; exact hle)).step g⟩)
   exact ⟨.junk _ _,hst.2,λ_ _=>rfl,hst.1,by simp⟩
omit hs hp in
theorem Qz0 {z:List AV} {vs:List Value}(h:Cells Z w θ z vs):∀ n,Cells Z w θ (List.replicate n z).flatten (List.replicate n vs).flatten
 | 0=> .nil _ _ _
 | n+1=>by
   rw [List.replicate_succ,List.replicate_succ,List.flatten_cons,List.flatten_cons]
   exact h.append (Qz0 h n)
omit hs hp in
theorem range_zero (vs:List Value)(n s:Nat)(hl:vs.length=s)(hs0:s≠0):((Array.range (n * s)).map (vs.toArray[· % vs.toArray.size]!)) =(List.replicate n vs).flatten.toArray:=by
 apply Array.ext'
 simp only [Array.toList_map,Array.toList_range,List.size_toArray,hl]
 apply List.ext_getElem?
 intro j
 by_cases hj:j < n * s
 · have h1:(List.range (n * s))[j]? =some j:=by simp [hj]
   have hdiv:j / s < n:=by
    rw [Nat.div_lt_iff_lt_mul (by omega)]; exact hj
   have hmod:j % s < s:=Nat.mod_lt _ (by omega)
   have h2:=flatten_get (es:=List.replicate n vs) (n:=s) (by intro e he; rw [(List.mem_replicate.1 he).2,hl]) (i:=j / s) (j:=j % s) (e:=vs) (by simp [hdiv]) hmod
   rw [show j / s * s+j % s=j by rw [Nat.mul_comm]; exact Nat.div_add_mod j s] at h2
   rw [h2,List.getElem?_map,h1]
   simp [List.getElem?_eq_getElem (show j % s < vs.length by omega)]
 · rw [List.getElem?_eq_none (by simp; omega),List.getElem?_eq_none]
   rw [Qv0 (n:=s) (by intro e he; rw [(List.mem_replicate.1 he).2,hl])]
   simp; omega
theorem fill_partsS (n:Nat):
 ∀ (ps:List (Nat×Operand)) (qs:List (Nat×A)) (es xs:List (List AV)) (vs:List Value),compPartsS ps=some qs→fillS σ p n es qs=some xs→(∀ e∈es,e.length=n)→Cells Z w th0 es.flatten vs→
   xs.length=es.length∧(∀ e∈xs,e.length=n)∧∃ us,Instr.fill (λi=>some (i * n,n)) vs.toArray (ps.map λx=>(x.1,a.eval x.2)) =some (List.toArray us)∧Cells Z w th0 xs.flatten us
 | [],qs,es,xs,vs,hc,hf,hz,hcs=>by
   simp [compPartsS] at hc; subst hc
   simp [fillS] at hf; subst hf
   exact ⟨rfl,hz,vs,by simp [Instr.fill],hcs⟩
 | (i,x)::ps,qs,es,xs,vs,hc,hf,hz,hcs=>by
   unfold compPartsS at hc
   split at hc<;>try (cases hc; done)
   rename_i x' rs hx' hrs
   simp only [sI] at hc
   subst hc
   unfold fillS at hf
   split at hf<;>try (cases hf; done)
   rename_i y hy
   split at hf<;>try (cases hf; done)
   rename_i ds hds
   split at hf<;>try (cases hf; done)
   rename_i hle
   have hr:=av_rep hs hp hx' hy
   obtain ⟨hlen,us,hus,hcu⟩:=Qw0 hds hr
   have hul:us.length=n:=by rw [hcu.len,hlen]
   have hfl:=Qv0 hz
   have hfit:i * n+n≤es.flatten.length:=by
    rw [hfl]
    have:=Nat.mul_le_mul_right n (show i+1≤es.length from hle.1)
    rw [Nat.add_mul] at this; omega
   rw [List.map_cons,fill_step rfl hus hul (by rw [hcs.len]; exact hfit)]
   have hz':∀ e∈es.set i ds,e.length=n:=by
    intro e he
    rcases List.mem_or_eq_of_mem_set he with h | h
    · exact hz e h
    · rw [h,hlen]
   have:=fill_partsS n ps rs (es.set i ds) xs _ hrs hf hz' (by
    rw [flatten_set hz hlen hle.1]
    exact hcs.set (hcu.th_clean hle.2 th0) (by rw [hlen]; exact hfit))
   refine ⟨by rw [this.1]; simp,this.2⟩
omit hs hp in
theorem rep_lst_at {z:List AV} {es:List (List AV)} {us:List Value} {b o cap:Nat}(hzl:∀ e∈es,e.length=z.length)(hc:Cells Z w th0 es.flatten us)(hcap:es.length≤cap)(hmax:cap≤maxLen)(hb:Z b)
 (hcell:∀ (j:Nat) (v:Value),us[j]? =some v→w.cell? ⟨b,o+j,none⟩ =some v):Rep Z w θ (.lst z es) (.slice (some ⟨b,o,none⟩) es.length cap):=by
 have key:∀ (i j:Nat) (c:AV),cellAt es i j=some c→es.flatten[i * z.length+j]? =some c:=by
  intro i j c hcc
  unfold cellAt at hcc
  rw [Option.bind_eq_some_iff] at hcc
  obtain ⟨e,he,hj⟩:=hcc
  rw [flatten_get hzl he (by rw [← hzl e (List.mem_of_getElem? he)]; exact (List.getElem?_eq_some_iff.1 hj).1),hj]
 refine .lst θ z es _ cap (λi j=>us.getD (i * z.length+j) undef) hcap hmax hzl ?_ ?_ ?_ ?_
 · intro e he c hce
   exact hc.at1 c (List.mem_flatten.2 ⟨e,he,hce⟩)
 · intro _
   refine ⟨b,o,rfl,hb,λi j c hcc=>?_⟩
   obtain ⟨v,hv,_⟩:=hc.get (key i j c hcc)
   rw [hcell _ v hv]
   simp [List.getD,hv]
 · intro i j c hcc
   obtain ⟨v,hv,_⟩:=hc.get (key i j c hcc)
   have:=hc.one v (List.mem_of_getElem? hv)
   simpa [List.getD,hv] using this
 · intro i j c hcc
   obtain ⟨v,hv,hr⟩:=hc.get (key i j c hcc)
   simpa [List.getD,hv] using hr
omit hs hp in
theorem rep_lst {z:List AV} {es:List (List AV)} {us:List Value} {b cap:Nat}(hzl:∀ e∈es,e.length=z.length)(hc:Cells Z w th0 es.flatten us)(hcap:es.length≤cap)(hmax:cap≤maxLen)(hb:Z b)
 (hcell:∀ (j:Nat) (v:Value),us[j]? =some v→w.cell? ⟨b,j,none⟩ =some v):Rep Z w θ (.lst z es) (.slice (some ⟨b,0,none⟩) es.length cap):=
 rep_lst_at hzl hc hcap hmax hb λj v hj=>by rw [Nat.zero_add]; exact hcell j v hj
theorem bslice_run {o:Oper} {n:Nat} {t e:TypeId} {ps:Array (Nat×Operand)}(ho:o.op= .buildSlice t n ps)(hu:P.underlying t=some (.slice e)) {s:Nat}(hsz:sizeP P e=some s) {z:List AV}(hz:zeroP P e=some z)
 {qs:List (Nat×A)} (hc:compPartsS ps.toList=some qs) (hn:n * s≤16777216) (hzs:z.length=s) (hs0:s≠0) {xs:List (List AV)} (hxs:fillS σ p z.length (List.replicate n z) qs=some xs):
 ∃ us:List Value,(execOp a.eval o).run P w= .ok (.value (.slice (some ⟨w.heap.size,0,none⟩) n n)) (w.alloc (.cells us.toArray e))∧Cells Z w th0 xs.flatten us∧xs.length=n∧(∀ e∈xs,e.length=z.length)∧n≤maxLen:=by
 obtain ⟨v,hzero,vs,hvs,hcs,hcl⟩:=zeroP_spec (Z:=Z) (w:=w) (θ:=th0) hz
 have hvl:vs.length=s:=by rw [hcs.len,hzs]
 obtain ⟨hxl,hxz,us,hfill,hcu⟩:=fill_partsS hs hp z.length ps.toList qs (List.replicate n z) xs _ hc hxs (by intro e he; rw [(List.mem_replicate.1 he).2]) (Qz0 hcs n)
 have hxn:xs.length=n:=by rw [hxl]; simp
 have hparts:(ps.map λx=>(x.1,a.eval x.2)).toList=ps.toList.map λx=>(x.1,a.eval x.2):=by simp
 have hfill':Instr.fill (λi=>some (i * s,s)) (List.replicate n vs).flatten.toArray (ps.toList.map λx=>(x.1,a.eval x.2)) =some (List.toArray us):=by rw [← hzs]; exact hfill
 have hrun:(execOp a.eval o).run P w= .ok (.value (.slice (some ⟨w.heap.size,0,none⟩) n n)) (w.alloc (.cells us.toArray e)):=by
  by_cases hn0:n=0
  · subst hn0
    simp only [List.replicate_zero,List.flatten_nil] at hfill'
    simp only [execOp,ho,Instr.buildSlice,Sem.run_bind,run_underlying hu,Result.andThen_ok,Qm0 hsz,Nat.zero_mul,Sem.run_ite,hparts]
    have e0:Array.map (λi:Nat=>(#[]:Array Value)[i % (#[]:Array Value).size]!) (Array.range 0) = #[]:=by
     apply Array.ext'
     simp
    simp only [if_true,Sem.run_pure,Result.andThen_ok,e0,hfill',newRow,Sem.run_bind,run_newObj_alloc]
    rfl
  · have h2:¬ n * s > 2 ^ 24:=by omega
    have h3:¬ n * s=0:=by
     intro h; rcases Nat.mul_eq_zero.1 h with h | h
     · exact hn0 h
     · exact hs0 h
    simp only [execOp,ho,Instr.buildSlice,Sem.run_bind,run_underlying hu,Result.andThen_ok,Qm0 hsz,Sem.run_ite,h2,h3,if_false,hzero,Sem.run_pure,hvs,hparts,range_zero vs n s hvl hs0,hfill',newRow,run_newObj_alloc]
 refine ⟨us,hrun,hcu,hxn,hxz,?_⟩
 unfold maxLen
 have:n≤n * s:=Nat.le_mul_of_pos_right n (by omega)
 omega
theorem ok_bslice {o:Oper} {d n:Nat}(hm:Mem X Z w θ σ.m) {t e:TypeId} {ps:Array (Nat×Operand)}(ho:o.op= .buildSlice t n ps)(hu:P.underlying t=some (.slice e)) {s:Nat}(hsz:sizeP P e=some s) {z:List AV}(hz:zeroP P e=some z)
 {qs:List (Nat×A)} (hc:compPartsS ps.toList=some qs) (hn:n * s≤16777216) (hzs:z.length=s) (hs0:s≠0) {r:Res}
 (he:(match fillS σ p z.length (List.replicate n z) qs with | some es=>Res.q (.lst z es) | none=>none) =some r):OpOK P X Z w θ σ.m a o d r:=by
 split at he<;>try (cases he; done)
 rename_i xs hxs
 simp only [Res.q,sI] at he; subst he
 obtain ⟨us,hrun,hcu,hxn,hxz,hmax⟩:=bslice_run hs hp ho hu hsz hz hc hn hzs hs0 hxs
 intro K Q hK
 obtain ⟨h1,g⟩:=hm.alloc (.cells us.toArray e) (λb=>Z b∨b=w.heap.size) (λ_ h=> .inl h) (λ_ h=>h)
 refine Qo0 hrun (hK _ _ _ θ ⟨?_,g,λ_ _=>rfl,h1,by simp⟩)
 have hnew:(w.alloc (.cells us.toArray e)).heap[w.heap.size]? =some (.cells us.toArray e (0,0)):=heap_alloc_new w _
 have:=rep_lst (Z:=λb=>Z b∨b=w.heap.size) (w:=w.alloc (.cells us.toArray e)) (θ:=θ) (z:=z) (es:=xs) (us:=us) (b:=w.heap.size) (cap:=n) hxz (hcu.step g) (by omega) hmax (.inr rfl) (λj v hj=>by
  rw [cell_of_row _ _ _ _ _ _ hnew]; simpa using hj)
 rw [hxn] at this; exact this
omit hs hp in
theorem ok_newB {o:Oper} {d:Nat} {m:Nat→Option Blk}(hm:Mem X Z w θ m) {T:TypeId} {z:List AV} {es:List (List AV)} {us:List Value} {c:Nat} {all:Array Value}(hz:z≠ [])(hrows:∀ e∈es,e.length=z.length)(hcs:Cells Z w th0 es.flatten us)
 (hown:(w.alloc (.cells all T)).ownsRow 0 T z.length (.slice (some ⟨w.heap.size,0,none⟩) es.length c) es.length us)
 (hrun:(execOp a.eval o).run P w= .ok (.value (.slice (some ⟨w.heap.size,0,none⟩) es.length c)) (w.alloc (.cells all T))) {pre:List Prop}:OpOK P X Z w θ m a o d ⟨pre,[],.vw (64 * d+64) 0 0 0,[],some (64 * d+64,.buf T z es),[]⟩:=by
 intro K Q hK
 obtain ⟨h1,g⟩:=hm.alloc (.cells all T) Z (λ_ h=>h) (λ_ h=> .inl h)
 refine Qo0 hrun (hK _ Z _ (λk=>if k=64 * d+64 then .slice (some ⟨w.heap.size,0,none⟩) es.length c else θ k) ⟨.vw _ _ _ _ _ _ _ _ (by simp),g,λk hk=>?_,?_,by simp⟩)
 · have:=hk _ _ rfl
   simp [this]
 · refine h1.put1 (64 * d+64) _ (.buf T z es) (by omega) ?_ ?_ ?_
   · refine ⟨hz,hrows,us,by simpa using hown,?_,hcs.step g⟩
     intro b hb hzb
     simp [bk] at hb; subst hb
     exact absurd (hm.zlt _ hzb) (Nat.lt_irrefl _)
   · intro r' blk' _ hr' b hb hb2
     simp [bk] at hb; subst hb
     exact absurd (hm.lt hr' hb2) (Nat.lt_irrefl _)
   · intro b hb
     simp [bk] at hb; subst hb
     exact (.inl hm.frame.size)
theorem ok_bsliceO {o:Oper} {d n:Nat}(hm:Mem X Z w θ σ.m) {t e:TypeId} {ps:Array (Nat×Operand)}(ho:o.op= .buildSlice t n ps)(hu:P.underlying t=some (.slice e)) {s:Nat}(hsz:sizeP P e=some s) {z:List AV}(hz:zeroP P e=some z)
 {qs:List (Nat×A)} (hc:compPartsS ps.toList=some qs) (hn:n * s≤16777216) (hzs:z.length=s) (hs0:s≠0) {r:Res}
 (he:(match fillS σ p z.length (List.replicate n z) qs with | some es=>some ⟨[],[],.vw (64 * d+64) 0 0 0,[],some (64 * d+64,.buf e z es),[]⟩ | none=>none) =some r):OpOK P X Z w θ σ.m a o d r:=by
 split at he<;>try (cases he; done)
 rename_i xs hxs
 simp only [sI] at he; subst he
 obtain ⟨us,hrun,hcu,hxn,hxz,hmax⟩:=bslice_run hs hp ho hu hsz hz hc hn hzs hs0 hxs
 subst hxn
 refine ok_newB hm (by rintro rfl; simp at hzs; omega) hxz hcu ?_ hrun
 rw [hzs]
 exact World.ownsRow_lit w us.toArray _ (Nat.zero_le _) hmax (by
  have:=hcu.len
  rw [Qv0 hxz,hzs] at this
  simpa using this)
end
end Go.Ev
namespace Go.Ev
open Go Go.RowKit
section
variable {P:Program}(w:World)
theorem run_append_zat (t ti ty e:TypeId)(i:TypeInfo)(z:Value)(k k2:IntKind)(ht:P.underlying t=some (.slice e))(hti:P.underlying ti=some (.int k))(hi:P.info? e=some i)(hz:i.zero=some z)
 (hzs:z.cells.size=i.size) (hsz:0 < i.size)
 (v:Value) (n:Nat) (xs:List Value) (hown:w.ownsRow 0 e i.size v n xs)
 (m:Nat) (h1:∀ u∈(Builtin.zeroCells z.cells m).toList,u.oneCell'=true)
 (h63:n+m≤maxLen) (hbytes:(n+m) * i.bytes≤140737488355328):
 ∃ v' w',(Builtin.append_ #[t,ti] ty #[v,.int k2 m]).run P w= .ok v' w'∧w'.ownsRow 0 e i.size v' (n+m) (xs ++ (Builtin.zeroCells z.cells m).toList)∧w.grownBy w' v.ownBlock∧
   (∃ a' n' c',v'= .slice a' n' c')∧∀ b,bk v'=some b→bk v=some b∨w.heap.size≤b:=by
 have hsmall:n+m≤9223372036854775807:=by simp only [maxLen] at h63; omega
 have hl:(Builtin.zeroCells z.cells m).toList.length=m * i.size:=by rw [Array.length_toList,size_zeroCells,hzs]
 have hlen:(xs ++ (Builtin.zeroCells z.cells m).toList).length=(n+m) * i.size:=by rw [List.length_append,hown.1,hl,Nat.add_mul]
 have hw:IntKind.i64.wrap (m:Int) =m:=by rw [IntKind.wrap_i64]; omega
 have hneg:¬ ((m:Int) < 0):=by omega
 have hmb:m * i.bytes≤140737488355328:=Nat.le_trans (Nat.mul_le_mul_right _ (by omega)) hbytes
 have hfits:¬ (281474976710656 < (m:Int) * (i.bytes:Int)):=by
  have:((m * i.bytes:Nat):Int) =(m:Int) * i.bytes:=by simp
  omega
 have hn1:¬ (m * i.size=0)∨m=0:=by
  by_cases h:m=0
  · exact .inr h
  · exact .inl (by have:=Nat.mul_pos (show 0 < m by omega) hsz; omega)
 have hnw:(if m * i.size=0 then #[] else Builtin.zeroCells z.cells m) =Builtin.zeroCells z.cells m:=by
  split
  · rename_i h
    have:m=0:=by rcases hn1 with h2 | h2; exact absurd h h2; exact h2
    subst this
    simp [Builtin.zeroCells]
  · rfl
 have grown:∀ (old:Nat),old < n+m→∀ (row:Option Nat),
  (w.drew.alloc (.cells (xs.toArray ++ Builtin.zeroCells z.cells m ++ Builtin.zeroCells z.cells (grownCap w (n+m) old e - (n+m))) e)).ownsRow 0 e i.size
   (.slice (some ⟨w.heap.size,0,none⟩) (n+m) (grownCap w (n+m) old e)) (n+m) (xs ++ (Builtin.zeroCells z.cells m).toList)∧
  w.grownBy (w.drew.alloc (.cells (xs.toArray ++ Builtin.zeroCells z.cells m ++ Builtin.zeroCells z.cells (grownCap w (n+m) old e - (n+m))) e)) row:=by
  intro old ho row
  have hge:=grownCap_ge w (n+m) old e
  have hcm:grownCap w (n+m) old e≤maxLen:=grownCap_le_maxLen w (n+m) old e h63
  refine ⟨⟨hlen,.inr ⟨w.heap.size,_,_,rfl,Nat.zero_le _,heap_alloc_new w.drew _,hge,hcm,?_,?_⟩⟩,⟨rfl,rfl,rfl,by simp,λk hk _=>heap_alloc_old w.drew _ hk⟩⟩
  · simp only [Array.size_append,List.size_toArray,size_zeroCells,hzs,hown.1,← Nat.add_mul]
    congr 1
    omega
  · simp only [Array.toList_append,List.append_assoc]
    rw [← List.append_assoc,← hlen]
    exact List.take_left
 have h63':¬ (9223372036854775807 < ((n:Int)+(m:Int))):=by omega
 by_cases hm:m=0
 · subst hm
   have hz0:(Builtin.zeroCells z.cells 0).toList= []:=by simp [Builtin.zeroCells]
   have hw0:IntKind.i64.wrap 0=0:=by rw [IntKind.wrap_i64]; omega
   rcases hown.2 with ⟨rfl,rfl⟩ | ⟨g,cap,cur,rfl,hbg,hg,hnc,hcm,hcs,htake⟩
   · exact ⟨_,w,by simp [Builtin.append_,run_underlying ht,run_underlying hti,sizeOf,typeInfo,hi,asInt,asIntOf,hw0],by rw [hz0]; simpa using hown,⟨rfl,rfl,rfl,Nat.le_refl _,λ_ _ _=>rfl⟩,⟨_,_,_,rfl⟩,λb hb=> .inl hb⟩
   · exact ⟨_,w,by simp [Builtin.append_,run_underlying ht,run_underlying hti,sizeOf,typeInfo,hi,asInt,asIntOf,hw0,hnc,storeCells],by rw [hz0]; simpa using hown,⟨rfl,rfl,rfl,Nat.le_refl _,λ_ _ _=>rfl⟩,⟨_,_,_,rfl⟩,λb hb=> .inl hb⟩
 have hne:¬ (m * i.size=0):=by
  have:=Nat.mul_pos (show 0 < m by omega) hsz; omega
 have hs0:¬ (i.size=0):=by omega
 rcases hown.2 with ⟨rfl,rfl⟩ | ⟨g,cap,cur,rfl,hbg,hg,hnc,hcm,hcs,htake⟩
 · have hx:xs= []:=List.eq_nil_of_length_eq_zero (by simpa using hown.1)
   subst hx
   have h48':¬ (281474976710656 < Builtin.nextslicecap m 0 * i.bytes):=by rw [nextslicecap_zero (by omega)]; omega
   have h63n:¬ (9223372036854775807 < (m:Int)):=by omega
   have hr:(Builtin.append_ #[t,ti] ty #[.slice none 0 0,.int k2 m]).run P w= .ok (.slice (some ⟨w.heap.size,0,none⟩) m (grownCap w m 0 e)) (w.drew.alloc (.cells (Builtin.zeroCells z.cells m ++ Builtin.zeroCells z.cells (grownCap w m 0 e - m)) e)):=by
    simp [Builtin.append_,run_underlying ht,run_underlying hti,sizeOf,typeInfo,zeroValue,hi,hz,asInt,asIntOf,hw,hneg,hfits,hm,hs0,h63n,h48',Question.forced,run_firstCells_none,newRow,grownCap]
    exact λh=>absurd h hne
   have hgr:=grown 0 (by omega) (Value.ownBlock (.slice none 0 0))
   simp only [Nat.zero_add,List.nil_append,Array.empty_append] at hgr ⊢
   exact ⟨_,_,hr,hgr.1,hgr.2,⟨_,_,_,rfl⟩,λb hb=>by simp [bk] at hb; right; omega⟩
 · by_cases hroom:n+m≤cap
   · have hfit:n * i.size+(Builtin.zeroCells z.cells m).toList.length≤cur.size:=by rw [hl,hcs,← Nat.add_mul]; exact Nat.mul_le_mul_right _ hroom
     have hst:=run_storeCells_at P g (n * i.size) e (Builtin.zeroCells z.cells m).toList 0 cur w hg (by simpa using hfit) h1
     simp only [Nat.add_zero] at hst
     have hr:(Builtin.append_ #[t,ti] ty #[.slice (some ⟨g,0,none⟩) n cap,.int k2 m]).run P w= .ok (.slice (some ⟨g,0,none⟩) (n+m) cap) (w.setRow g (cur.toList.take (n * i.size) ++ (Builtin.zeroCells z.cells m).toList ++ cur.toList.drop (n * i.size+(Builtin.zeroCells z.cells m).toList.length)).toArray):=by
      simp [Builtin.append_,run_underlying ht,run_underlying hti,sizeOf,typeInfo,zeroValue,hi,hz,asInt,asIntOf,hw,hneg,hfits,hroom,hm,hs0,Addr.add_lit,hst]
      exact λh=>absurd h hne
     refine ⟨_,_,hr,⟨hlen,.inr ⟨g,cap,_,rfl,hbg,setRow_heap w g cur _ e _ hg,hroom,hcm,?_,?_⟩⟩,⟨rfl,rfl,rfl,by simp,λk _ hk=>setRow_other w g k _ (λe=>hk (by simp [Value.ownBlock,e]))⟩,⟨_,_,_,rfl⟩,λb hb=>by simp [bk] at hb ⊢; exact .inl hb⟩
     · simp only [List.size_toArray,List.length_append,List.length_take,List.length_drop,Array.length_toList] at hfit ⊢
       omega
     · rw [htake,← hlen]
       exact List.take_left
   · have holds:∀ j u,xs[j]? =some u→w.cell? ((⟨g,0,none⟩:Addr).add j) =some u:=hown.cells (g:=g) rfl
     have hfo:=run_firstCells_some (P:=P) w.drew i.size n ⟨g,0,none⟩ n cap xs hown.1 (by simpa using holds)
     have h48':¬ (281474976710656 < Builtin.nextslicecap (n+m) cap * i.bytes):=by
      have:=growslice_fits (old:=cap) (show cap < n+m by omega) hbytes; omega
     have hr:(Builtin.append_ #[t,ti] ty #[.slice (some ⟨g,0,none⟩) n cap,.int k2 m]).run P w= .ok (.slice (some ⟨w.heap.size,0,none⟩) (n+m) (grownCap w (n+m) cap e)) (w.drew.alloc (.cells (xs.toArray ++ Builtin.zeroCells z.cells m ++ Builtin.zeroCells z.cells (grownCap w (n+m) cap e - (n+m))) e)):=by
      simp [Builtin.append_,run_underlying ht,run_underlying hti,sizeOf,typeInfo,zeroValue,hi,hz,asInt,asIntOf,hw,hneg,hfits,hroom,hm,hs0,h63',h48',Question.forced,hfo,newRow,grownCap]
      exact λh=>absurd h hne
     have hgr:=grown cap (by omega) (Value.ownBlock (.slice (some ⟨g,0,none⟩) n cap))
     exact ⟨_,_,hr,hgr.1,hgr.2,⟨_,_,_,rfl⟩,λb hb=>by simp [bk] at hb; right; omega⟩
end
theorem app_outZ {P:Program} {X:Cx} {Z:Nat→Prop} {w:World} {θ:Nat→Value} {m:Nat→Option Blk}(hm:Mem X Z w θ m) {d:Nat}(hd:d+1≠0) {t ti ty e:TypeId} {kk:IntKind} {i:TypeInfo} {zv:Value}(ht:P.underlying t=some (.slice e))(hti:P.underlying ti=some (.int kk))(hi:P.info? e=some i)(hz:i.zero=some zv)
 (hzs:zv.cells.size=i.size) (hsz:0 < i.size) {z:List AV} (hzl:z.length=i.size) (hzc:constAVs zv.cells.toList=some z) {x y:AV} {vx vy:Value} (hx:Rep Z w θ x vx) (hy:Rep Z w θ y vy) {r:Res} (he:appZR m e i.bytes z d x y=some r) (hpre:∀ q∈r.pre,q):
 ∃ v' w' θ',(Builtin.append_ #[t,ti] ty #[vx,vy]).run P w= .ok v' w'∧Out X Z w θ m d r v' Z w' θ':=by
 unfold appZR at he
 split at he<;>try (cases he; done)
 rename_i id es t1 kv n hb
 simp only [sI] at he; subst he
 have h0n:=hpre (0≤n) (by simp)
 have h63:=hpre (es.length+n.toNat≤9223372036854775807) (by simp)
 have hby:=hpre ((es.length+n.toNat) * i.bytes≤140737488355328) (by simp)
 obtain ⟨mm,rfl⟩:∃ mm:Nat,n=mm:=⟨n.toNat,by omega⟩
 simp only [Int.toNat_natCast] at h63 hby ⊢
 cases hy
 obtain ⟨hrows,⟨xs,hown,hcx⟩,hid⟩:=base_spec hm hx hb
 have hzero:(Builtin.zeroCells zv.cells mm).toList=(List.replicate mm zv.cells.toList).flatten:=by
  have:=range_zero zv.cells.toList mm i.size (by rw [Array.length_toList,hzs]) (by omega)
  simp only [Builtin.zeroCells,hzs]
  simp only [Array.toArray_toList,hzs] at this
  rw [this]
 have hcn:Cells Z w th0 (List.replicate mm z).flatten (Builtin.zeroCells zv.cells mm).toList:=by
  rw [hzero]; exact Qz0 (Qq0 hzc).1 mm
 have hrows2:∀ q∈List.replicate mm z,q.length=z.length:=λq hq=>by rw [(List.mem_replicate.1 hq).2]
 rw [hzl] at hown
 have hone:∀ u∈(Builtin.zeroCells zv.cells mm).toList,u.oneCell'=true:=hcn.one
 obtain ⟨v',w',hr,hown',hgb,⟨a',n',c',hv'⟩,hblk⟩:=run_append_zat (P:=P) w t ti ty e i zv kk kv ht hti hi hz hzs hsz vx es.length xs hown mm hone (by simp only [maxLen]; omega) hby
 have hnZ:∀ b,bk v'=some b→¬ Z b:=by
  intro b hb' hzb
  rcases hblk b hb' with h | h
  · rcases hid with ⟨_,h0⟩ | ⟨_,_,_,h0⟩
    · rw [h0] at h; cases h
    · exact h0 b h hzb
  · have:=hm.zlt b hzb; omega
 have hownX:∀ b,bk v'=some b→X.mine b:=by
  intro b hb'
  rcases hblk b hb' with h | h
  · rcases hid with ⟨_,h0⟩ | ⟨h64,h0,h1,_⟩
    · rw [h0] at h; cases h
    · rcases hm.own id b h1 (by rw [h0]; exact h) with h | h
      · exact h
      · omega
  · have:=hm.frame.size; exact .inl (by omega)
 have hstep:∃ m',Mem X Z w' θ m'∧Goes Z w Z w'∧(∀ k,k≠id→m' k=m k):=by
  rcases hid with ⟨_,h0⟩ | ⟨h64,h0,h1,h2⟩
  · have hno:vx.ownBlock=none:=by
     cases hN:vx.ownBlock with
     | none=>rfl
     | some k=>rw [bk_own vx hN hown] at h0; cases h0
    obtain ⟨q1,q2⟩:=hm.stepW (w':=w') (m':=m) none (λ_ h=>h) (λ_ h=> .inl h) (λb hb'=>Nat.lt_of_lt_of_le (hm.zlt b hb') hgb.size) hgb.os hgb.tape hgb.output hgb.size (λk hk _=>hgb.block k hk (by rw [hno]; simp)) (λ_ _=>rfl) (λr h=>by cases h)
    exact ⟨m,q1,q2,λ_ _=>rfl⟩
  · obtain ⟨q1,q2⟩:=hm.stepW (w':=w') (m':=updM m id none) (some id) (λ_ h=>h) (λ_ h=> .inl h) (λb hb'=>Nat.lt_of_lt_of_le (hm.zlt b hb') hgb.size) hgb.os hgb.tape hgb.output hgb.size
     (λk hk hne=>hgb.block k hk (by
      intro hk'
      have:=bk_own vx hk'.symm hown
      exact hne id rfl (by rw [h0]; exact this)))
     (λk hk=>by have:k≠id:=λe=>hk (by rw [e]); simp [updM,this])
     (λk hk=>by
      simp only [sI] at hk; subst hk
      exact ⟨h1,λblk hblk=>by simp [updM] at hblk⟩)
    exact ⟨_,q1,q2,λk hk=>by simp [updM,hk]⟩
 obtain ⟨m',hm',hg,hmm⟩:=hstep
 have h64:64≤id:=by
  rcases hid with ⟨h,_⟩ | ⟨h,_⟩
  · omega
  · exact h
 have hput:=hm'.put1 id v' (.buf e z (es ++ List.replicate mm z)) h64 (by
  refine ⟨λhz0=>?_,?_,xs ++ (Builtin.zeroCells zv.cells mm).toList,?_,?_,?_⟩
  · rw [hz0] at hzl; simp at hzl; omega
  · intro q hq
    rcases List.mem_append.1 hq with hq | hq
    · exact hrows q hq
    · exact hrows2 q hq
  · simp only [if_true,List.length_append,List.length_replicate,hzl]
    exact hown'
  · intro b hb'
    simp only [if_true] at hb'
    exact hnZ b hb'
  · rw [List.flatten_append]
    exact (hcx.append hcn).step hg) (by
  intro r' blk' hne hr' b hb' hb2
  have hr0:m r'=some blk':=by rw [← hmm r' hne]; exact hr'
  rcases hblk b hb' with h | h
  · rcases hid with ⟨_,h0⟩ | ⟨_,h0,h1,_⟩
    · rw [h0] at h; cases h
    · exact hne (hm.disj r' id b (by rw [hr0]; rfl) h1 hb2 (by rw [h0]; exact h))
  · have:=hm.lt hr0 hb2; omega) hownX
 have heq:updM (killM id m') id (some (killB id (.buf e z (es ++ List.replicate mm z)))) =updM (killM id m) id (some (killB id (.buf e z (es ++ List.replicate mm z)))):=by
  funext k
  simp only [updM,killM]
  by_cases hk:k=id
  · simp [hk]
  · simp [hk,hmm k hk]
 rw [heq] at hput
 refine ⟨v',w',λk=>if k=id then v' else θ k,hr,?_,hg,λk hk=>?_,hput,by simp⟩
 · subst hv'
   exact .vw _ _ _ _ _ _ _ _ (by simp)
 · have:=hk _ _ rfl
   simp [this]
end Go.Ev
namespace Go.Ev
open Go Go.RowKit
theorem Goes.wider {Z Z':Nat→Prop}(w:World)(h:∀ b,Z b→Z' b):Goes Z w Z' w:=⟨h,λ_ _=>rfl⟩
theorem Rep.flat0 {Z Z':Nat→Prop} {w w':World} {θ θ':Nat→Value} {x:AV} {v:Value}(hx:x.flat0=true)(h:Rep Z w θ x v):Rep Z' w' θ' x v:=by
 cases h<;>simp [AV.flat0] at hx
 · exact .int _ _ _
 · exact .bool _ _
 · exact .str _ _
 · exact .fn _ _
 · exact .nil _
theorem Cells.flat {Z Z':Nat→Prop} {w w':World} {θ θ':Nat→Value} {cs:List AV} {vs:List Value}(hx:cs.all AV.flat0=true)(h:Cells Z w θ cs vs):Cells Z' w' θ' cs vs:=
 ⟨h.len,h.at1,h.one,λi c v hc hv=>(h.rep i c v hc hv).flat0 (List.all_eq_true.1 hx c (List.mem_of_getElem? hc))⟩
theorem Rep.flat1 {Z Z':Nat→Prop} {w w':World} {θ θ':Nat→Value} {x:AV} {v:Value}(hx:x.flat1=true)(h:Rep Z w θ x v):Rep Z' w' θ' x v:=by
 cases x with
 | agg cs=>
   obtain ⟨vs,rfl,hc⟩:=h.cells
   exact (hc.flat hx).agg
 | _=>exact h.flat0 hx
theorem Rep.flat2 {Z Z':Nat→Prop} {w w':World} {θ θ':Nat→Value} {x:AV} {v:Value}(hx:x.flat2=true)(h:Rep Z w θ x v):Rep Z' w' θ' x v:=by
 cases x with
 | tup cs=>
   cases h with
   | tup _ _ vs hl ha h=>
     simp only [AV.flat2,List.all_eq_true] at hx
     exact .tup θ' cs vs hl ha λi c v hc hv=>(h i c v hc hv).flat1 (hx c (List.mem_of_getElem? hc))
 | _=>exact h.flat1 hx
section
variable {X:Cx} {Z Z':Nat→Prop} {w:World} {θ:Nat→Value} {m:Nat→Option Blk}
theorem rep_empty (Z:Nat→Prop)(w:World)(θ:Nat→Value)(z:List AV)(a:Option Addr) {c:Nat}(hc:c≤maxLen):Rep Z w θ (.lst z []) (.slice a 0 c):=
 .lst θ z [] a c (λ_ _=>undef) (by simp) hc (by simp) (by simp) (by simp) (by simp [cellAt]) (by simp [cellAt])
theorem buf_lst (hm:Mem X Z w θ m) {r T:Nat} {z:List AV} {es:List (List AV)}(hr:m r=some (.buf T z es))(hz:∀ b,Z b→Z' b)(hb:∀ b,bk (θ r) =some b→Z' b)(θ':Nat→Value):Rep Z' w θ' (.lst z es) (θ r):=by
 obtain ⟨hz0,hrows,xs,hown,_,hc⟩:=hm.brep r _ hr
 rcases hown.2 with ⟨h,hn⟩ | ⟨g,cap,cur,h,_,hg,hnc,hcm,hcs,htake⟩
 · rw [h]
   have:es= []:=List.eq_nil_of_length_eq_zero hn
   subst this
   exact rep_empty _ _ _ _ _ (by unfold maxLen; omega)
 · rw [h] at hown hb ⊢
   refine rep_lst hrows (hc.step (Goes.wider w hz)) hnc hcm (hb g rfl) λj v hj=>?_
   have:=hown.cells (g:=g) rfl j v hj
   rw [Qp0] at this
   rw [show j=0+j by omega]; exact this
theorem part_lst (hm:Mem X Z w θ m) {r T lo hi:Nat} {z:List AV} {es:List (List AV)}(hr:m r=some (.buf T z es))(hz:∀ b,Z b→Z' b)(hb:∀ b,bk (θ r) =some b→Z' b)(θ':Nat→Value) {v:Value}(h:Rep Z w θ (.sv r z.length lo hi) v):
 Rep Z' w θ' (.lst z ((es.drop lo).take (hi - lo))) v:=by
 obtain ⟨hz0,hrows,xs,hown,_,hc⟩:=hm.brep r _ hr
 have hrd:=reads_part hm hr h
 cases h with
 | sv _ _ _ _ _ a n c a' c' hθ h1 h2 h3 h4 h5=>
   obtain ⟨hpr,ad,cc,news,hv,hne,hl,hcell,hcs⟩:=hrd
   simp only [Value.slice.injEq] at hv
   obtain ⟨rfl,hlen,rfl⟩:=hv
   rcases Nat.lt_or_ge lo hi with hlt | hge
   · obtain ⟨g,e1,e2⟩:=h3 hlt
     subst e1; subst e2
     generalize hes:(es.drop lo).take (hi - lo) =es' at *
     rw [hlen]
     refine rep_lst_at hpr (hcs.step (Goes.wider w hz)) (by omega) h5 (hb g (by rw [hθ]; rfl)) λj v hj=>?_
     have:=hcell _ rfl j v hj
     rw [Qp0] at this
     exact this
   · have e0:hi - lo=0:=by omega
     rw [e0] at h4 ⊢
     simp only [List.take_zero]
     exact rep_empty _ _ _ _ _ h5
theorem lendA_rep (hm:Mem X Z w θ m)(hz:∀ b,Z b→Z' b) {x y:AV} {v:Value} {bs:List Nat}(h:Rep Z w θ x v)(e:lendA m x=some (y,bs))(hb:∀ r∈bs,∀ b,bk (θ r) =some b→Z' b):Rep Z' w th0 y v∧y.clean0=true:=by
 unfold lendA at e
 split at e
 · rename_i r a b c
   unfold lendB at e
   split at e<;>try (cases e; done)
   rename_i T z es hr
   simp only [sI,Prod.mk.injEq] at e
   obtain ⟨rfl,rfl⟩:=e
   cases h with
   | vw _ _ _ _ _ a' n' c' hθ=>
     rw [← hθ]
     exact ⟨buf_lst hm hr hz (hb r (by simp)) th0,rfl⟩
 · rename_i r sz lo hi
   unfold lendP at e
   split at e<;>try (cases e; done)
   rename_i T z es hr
   split at e<;>try (cases e; done)
   rename_i hsz
   have hsz:z.length=sz:=by simpa using hsz
   subst hsz
   simp only [sI,Prod.mk.injEq] at e
   obtain ⟨rfl,rfl⟩:=e
   exact ⟨part_lst hm hr hz (hb r (by simp)) th0 h,rfl⟩
 all_goals first | (cases e; done) | (simp only [sI,Prod.mk.injEq] at e; obtain ⟨rfl,rfl⟩:=e; exact ⟨(h.step (Goes.wider w hz)).th_clean0 rfl th0,rfl⟩)
theorem Zc0 {x:Option (AV×List Nat)} {y:Option (List AV×List Nat)} {ys:List AV} {bs:List Nat}(h:consL x y=some (ys,bs)):∃ v b vs b',x=some (v,b)∧y=some (vs,b')∧ys=v::vs∧bs=b ++ b':=by
 unfold consL at h
 split at h<;>simp at h
 obtain ⟨rfl,rfl⟩:=h
 exact ⟨_,_,_,_,rfl,rfl,rfl,rfl⟩
theorem lendC_cells (hm:Mem X Z w θ m)(hz:∀ b,Z b→Z' b):∀ {xs ys:List AV} {vs:List Value} {bs:List Nat},Cells Z w θ xs vs→lendC m xs=some (ys,bs)→(∀ r∈bs,∀ b,bk (θ r) =some b→Z' b)→Cells Z' w th0 ys vs∧ys.all AV.clean0=true
 | [],ys,vs,bs,h,e,hb=>by
   simp only [lendC,sI,Prod.mk.injEq] at e
   obtain ⟨rfl,rfl⟩:=e
   have hl:=h.len
   cases vs with
   | nil=>exact ⟨.nil _ _ _,rfl⟩
   | cons _ _=>simp at hl
 | x ::xs,ys,vs,bs,h,e,hb=>by
   simp only [lendC] at e
   obtain ⟨y,b1,ys',b2,e1,e2,rfl,rfl⟩:=Zc0 e
   cases vs with
   | nil=>have:=h.len; simp at this
   | cons u us=>
     have hrest:Cells Z w θ xs us:=by have:=h.drop 1; simpa using this
     have h1:=lendA_rep hm hz (h.rep 0 x u rfl rfl) e1 (λr hr=>hb r (by simp [hr]))
     have h2:=lendC_cells hm hz hrest e2 (λr hr=>hb r (by simp [hr]))
     exact ⟨Cells.append (Cells.one' h1.1 (Zp0 h1.2) (h.one u (by simp))) h2.1,by simp only [List.all_cons,h1.2,h2.2,Bool.and_self]⟩
theorem lend1_rep (hm:Mem X Z w θ m)(hz:∀ b,Z b→Z' b) {x y:AV} {v:Value} {bs:List Nat}(h:Rep Z w θ x v)(e:lend1 m x=some (y,bs))(hb:∀ r∈bs,∀ b,bk (θ r) =some b→Z' b):Rep Z' w th0 y v∧y.clean1=true:=by
 have key:lendA m x=some (y,bs)→Rep Z' w th0 y v∧y.clean1=true:=λe=>by
  have:=lendA_rep hm hz h (by simpa only [lend1] using e) hb
  refine ⟨this.1,?_⟩
  have h2:=this.2
  cases y<;>first | exact h2 | simp [AV.clean0] at h2
 cases x with
 | agg cs=>
   simp only [lend1] at e
   obtain ⟨vs,rfl,hc⟩:=h.cells
   cases hl:lendC m cs with
   | none=>rw [hl] at e; cases e
   | some q=>
     obtain ⟨ys,b⟩:=q
     rw [hl] at e
     simp only [aggL,sI,Prod.mk.injEq] at e
     obtain ⟨rfl,rfl⟩:=e
     have:=lendC_cells hm hz hc hl hb
     exact ⟨this.1.agg,this.2⟩
 | _=>exact key e
theorem lends_reps (hm:Mem X Z w θ m)(hz:∀ b,Z b→Z' b):∀ {xs ys:List AV} {vs:List Value} {bs:List Nat},Reps Z w θ xs vs→lends m xs=some (ys,bs)→(∀ r∈bs,∀ b,bk (θ r) =some b→Z' b)→Reps Z' w th0 ys vs
 | [],ys,vs,bs,h,e,hb=>by
   simp only [lends,sI,Prod.mk.injEq] at e
   obtain ⟨rfl,rfl⟩:=e
   exact ⟨h.len,by simp⟩
 | x ::xs,ys,vs,bs,h,e,hb=>by
   simp only [lends] at e
   obtain ⟨y,b1,ys',b2,e1,e2,rfl,rfl⟩:=Zc0 e
   cases vs with
   | nil=>have:=h.len; simp at this
   | cons u us=>
     have hrest:Reps Z w θ xs us:=⟨by have:=h.len; simpa using this,λi c v hi hv=>h.rep (i+1) c v (by simpa using hi) (by simpa using hv)⟩
     have h1:=lend1_rep hm hz (h.rep 0 x u rfl rfl) e1 (λr hr=>hb r (by simp [hr]))
     have h2:=lends_reps hm hz hrest e2 (λr hr=>hb r (by simp [hr]))
     refine ⟨by simp [h2.len],λi c v hi hv=>?_⟩
     cases i with
     | zero=>simp only [List.getElem?_cons_zero,sI] at hi hv; subst hi; subst hv; exact h1.1
     | succ i=>simp only [List.getElem?_cons_succ] at hi hv; exact h2.rep i c v hi hv
def Lent (m:Nat→Option Blk)(bs:List Nat):Prop:=∀ r∈bs,∃ T z es,m r=some (.buf T z es)
theorem lendA_lent {x y:AV} {bs:List Nat}(e:lendA m x=some (y,bs)):Lent m bs:=by
 unfold lendA at e
 split at e
 · rename_i r a b c
   unfold lendB at e
   split at e<;>try (cases e; done)
   rename_i T z es hr
   simp only [sI,Prod.mk.injEq] at e
   obtain ⟨_,rfl⟩:=e
   intro r' hr'
   simp only [List.mem_singleton] at hr'
   subst hr'
   exact ⟨_,_,_,hr⟩
 · rename_i r sz lo hi
   unfold lendP at e
   split at e<;>try (cases e; done)
   rename_i T z es hr
   split at e<;>try (cases e; done)
   simp only [sI,Prod.mk.injEq] at e
   obtain ⟨_,rfl⟩:=e
   intro r' hr'
   simp only [List.mem_singleton] at hr'
   subst hr'
   exact ⟨_,_,_,hr⟩
 all_goals first | (cases e; done) | (simp only [sI,Prod.mk.injEq] at e; obtain ⟨_,rfl⟩:=e; intro r hr; cases hr)
theorem Lent.app {b1 b2:List Nat}(h1:Lent m b1)(h2:Lent m b2):Lent m (b1 ++ b2):=λr hr=>(List.mem_append.1 hr).elim (h1 r) (h2 r)
theorem lendC_lent:∀ {xs ys:List AV} {bs:List Nat},lendC m xs=some (ys,bs)→Lent m bs
 | [],ys,bs,e=>by
   simp only [lendC,sI,Prod.mk.injEq] at e
   obtain ⟨_,rfl⟩:=e
   intro r hr; cases hr
 | x::xs,ys,bs,e=>by
   simp only [lendC] at e
   obtain ⟨y,b1,ys',b2,e1,e2,rfl,rfl⟩:=Zc0 e
   exact (lendA_lent e1).app (lendC_lent e2)
theorem lend1_lent {x y:AV} {bs:List Nat}(e:lend1 m x=some (y,bs)):Lent m bs:=by
 cases x with
 | agg cs=>
   simp only [lend1] at e
   cases hl:lendC m cs with
   | none=>rw [hl] at e; cases e
   | some q=>
     obtain ⟨ys,b⟩:=q
     rw [hl] at e
     simp only [aggL,sI,Prod.mk.injEq] at e
     obtain ⟨_,rfl⟩:=e
     exact lendC_lent hl
 | _=>exact lendA_lent (m:=m) (by simpa only [lend1] using e)
theorem lends_lent:∀ {xs ys:List AV} {bs:List Nat},lends m xs=some (ys,bs)→Lent m bs
 | [],ys,bs,e=>by
   simp only [lends,sI,Prod.mk.injEq] at e
   obtain ⟨_,rfl⟩:=e
   intro r hr; cases hr
 | x::xs,ys,bs,e=>by
   simp only [lends] at e
   obtain ⟨y,b1,ys',b2,e1,e2,rfl,rfl⟩:=Zc0 e
   exact (lend1_lent e1).app (lends_lent e2)
theorem lendO0_or (m:Nat→Option Blk)(x:AV):lendO0 m x=some (.junk,[])∨lendO0 m x=lendA m x:=by
 cases x<;>first | exact .inl rfl | exact .inr rfl
theorem lendO0_rep (hm:Mem X Z w θ m)(hz:∀ b,Z b→Z' b) {x y:AV} {v:Value} {bs:List Nat}(h:Rep Z w θ x v)(e:lendO0 m x=some (y,bs))(hb:∀ r∈bs,∀ b,bk (θ r) =some b→Z' b):Rep Z' w th0 y v∧y.atom=true:=by
 rcases lendO0_or m x with e' | e'
 · rw [e'] at e
   simp only [sI,Prod.mk.injEq] at e
   obtain ⟨rfl,rfl⟩:=e
   exact ⟨.junk _ _,rfl⟩
 · rw [e'] at e
   have:=lendA_rep hm hz h e hb
   exact ⟨this.1,Zp0 this.2⟩
theorem lendO0_kept {x y:AV} {bs:List Nat}(e:lendO0 m x=some (y,bs)):∀ r∈bs,(m r).isSome=true:=by
 rcases lendO0_or m x with e' | e'
 · rw [e'] at e
   simp only [sI,Prod.mk.injEq] at e
   obtain ⟨rfl,rfl⟩:=e
   intro r hr; cases hr
 · rw [e'] at e
   intro r hr
   obtain ⟨T,z,es,he⟩:=lendA_lent e r hr
   rw [he]; rfl
theorem lendOL_cells (hm:Mem X Z w θ m)(hz:∀ b,Z b→Z' b):∀ {xs ys:List AV} {vs:List Value} {bs:List Nat},Cells Z w θ xs vs→lendOL m xs=some (ys,bs)→(∀ r∈bs,∀ b,bk (θ r) =some b→Z' b)→Cells Z' w th0 ys vs
 | [],ys,vs,bs,h,e,_=>by
   simp only [lendOL,sI,Prod.mk.injEq] at e
   obtain ⟨rfl,rfl⟩:=e
   have hl:=h.len
   cases vs with
   | nil=>exact .nil _ _ _
   | cons _ _=>simp at hl
 | x ::xs,ys,vs,bs,h,e,hb=>by
   simp only [lendOL] at e
   obtain ⟨y,b1,ys',b2,e1,e2,rfl,rfl⟩:=Zc0 e
   cases vs with
   | nil=>have:=h.len; simp at this
   | cons u us=>
     have hrest:Cells Z w θ xs us:=by have:=h.drop 1; simpa using this
     have h1:=lendO0_rep hm hz (h.rep 0 x u rfl rfl) e1 (λr hr=>hb r (by simp [hr]))
     have h2:=lendOL_cells hm hz hrest e2 (λr hr=>hb r (by simp [hr]))
     exact Cells.append (Cells.one' h1.1 h1.2 (h.one u (by simp))) h2
theorem lendOL_kept:∀ {xs ys:List AV} {bs:List Nat},lendOL m xs=some (ys,bs)→∀ r∈bs,(m r).isSome=true
 | [],ys,bs,e=>by
   simp only [lendOL,sI,Prod.mk.injEq] at e
   obtain ⟨rfl,rfl⟩:=e
   intro r hr; cases hr
 | x::xs,ys,bs,e=>by
   simp only [lendOL] at e
   obtain ⟨y,b1,ys',b2,e1,e2,rfl,rfl⟩:=Zc0 e
   intro r hr
   rcases List.mem_append.1 hr with h | h
   · exact lendO0_kept e1 r h
   · exact lendOL_kept e2 r h
theorem rep_ep1 {cs:List AV} {us:List Value} {b o:Nat} {T:TypeId} {z:Nat×Nat}(hc:Cells Z' w th0 cs us)(hh:w.heap[b]? =some (.cells us.toArray T z))(hb:Z' b):Rep Z' w θ (.ep cs [cs] 0 o) (.pointer (some ⟨b,o,none⟩)):=by
 have:=Rep.ep (Z:=Z') (w:=w) θ cs [cs] 0 o b 0 (λ_ j=>us.getD j .nilIface) (by simp) (by simp) (by simpa using hc.at1) hb ?_ ?_ ?_
 · simpa using this
 · intro i j c hc'
   unfold cellAt at hc'
   cases i with
   | succ i=>simp at hc'
   | zero=>
     simp only [List.getElem?_cons_zero,Option.bind_some] at hc'
     obtain ⟨u,hu,_⟩:=hc.get hc'
     rw [cell_of_row w b _ us.toArray T z hh]
     simp [hu]
 · intro i j c hc'
   unfold cellAt at hc'
   cases i with
   | succ i=>simp at hc'
   | zero=>
     simp only [List.getElem?_cons_zero,Option.bind_some] at hc'
     obtain ⟨u,hu,_⟩:=hc.get hc'
     simp only [List.getD_eq_getElem?_getD,hu,Option.getD_some]
     exact hc.one u (List.mem_of_getElem? hu)
 · intro i j c hc'
   unfold cellAt at hc'
   cases i with
   | succ i=>simp at hc'
   | zero=>
     simp only [List.getElem?_cons_zero,Option.bind_some] at hc'
     obtain ⟨u,hu,hru⟩:=hc.get hc'
     simp only [List.getD_eq_getElem?_getD,hu,Option.getD_some]
     exact hru
theorem lendX_or (x:AV):(∃ r o,x= .ptr r o)∨lendX m x=lend1 m x:=by
 cases x<;>first | exact .inl ⟨_,_,rfl⟩ | exact .inr rfl
theorem lendX_ob {r o:Nat} {y:AV} {bs:List Nat}(e:lendX m (.ptr r o) =some (y,bs)):∃ cs ds bs',m r=some (.cells cs)∧lendOL m cs=some (ds,bs')∧y= .ep ds [ds] 0 o∧bs=r::bs':=by
 simp only [lendX] at e
 unfold lendOb at e
 split at e<;>try (cases e; done)
 rename_i cs hr
 unfold lendOE at e
 split at e<;>try (cases e; done)
 rename_i ds bs' hl
 simp only [sI,Prod.mk.injEq] at e
 exact ⟨cs,ds,bs',hr,hl,e.1.symm,e.2.symm⟩
theorem lendX_rep (hm:Mem X Z w θ m)(hz:∀ b,Z b→Z' b) {x y:AV} {v:Value} {bs:List Nat}(h:Rep Z w θ x v)(e:lendX m x=some (y,bs))(hb:∀ r∈bs,∀ b,bk (θ r) =some b→Z' b):Rep Z' w th0 y v:=by
 rcases lendX_or (m:=m) x with ⟨r,o,rfl⟩ | e'
 · obtain ⟨cs,ds,bs',hr,hl,rfl,rfl⟩:=lendX_ob e
   obtain ⟨b,T,us,hθ,hheap,hnZ,hcells⟩:=hm.brep r _ hr
   cases h with
   | ptr _ _ _ b' hθ'=>
     rw [hθ] at hθ'; simp at hθ'; subst hθ'
     exact rep_ep1 (lendOL_cells hm hz hcells hl λr' hr'=>hb r' (by simp [hr'])) hheap (hb r (by simp) b (by rw [hθ]; rfl))
 · rw [e'] at e
   exact (lend1_rep hm hz h e hb).1
theorem lendX_kept {x y:AV} {bs:List Nat}(e:lendX m x=some (y,bs)):∀ r∈bs,(m r).isSome=true:=by
 rcases lendX_or (m:=m) x with ⟨r,o,rfl⟩ | e'
 · obtain ⟨cs,ds,bs',hr,hl,rfl,rfl⟩:=lendX_ob e
   intro r' hr'
   rcases List.mem_cons.1 hr' with rfl | h
   · rw [hr]; rfl
   · exact lendOL_kept hl r' h
 · rw [e'] at e
   intro r hr
   obtain ⟨T,z,es,he⟩:=lend1_lent e r hr
   rw [he]; rfl
theorem lendsX_reps (hm:Mem X Z w θ m)(hz:∀ b,Z b→Z' b):∀ {xs ys:List AV} {vs:List Value} {bs:List Nat},Reps Z w θ xs vs→lendsX m xs=some (ys,bs)→(∀ r∈bs,∀ b,bk (θ r) =some b→Z' b)→Reps Z' w th0 ys vs
 | [],ys,vs,bs,h,e,hb=>by
   simp only [lendsX,sI,Prod.mk.injEq] at e
   obtain ⟨rfl,rfl⟩:=e
   exact ⟨h.len,by simp⟩
 | x ::xs,ys,vs,bs,h,e,hb=>by
   simp only [lendsX] at e
   obtain ⟨y,b1,ys',b2,e1,e2,rfl,rfl⟩:=Zc0 e
   cases vs with
   | nil=>have:=h.len; simp at this
   | cons u us=>
     have hrest:Reps Z w θ xs us:=⟨by have:=h.len; simpa using this,λi c v hi hv=>h.rep (i+1) c v (by simpa using hi) (by simpa using hv)⟩
     have h1:=lendX_rep hm hz (h.rep 0 x u rfl rfl) e1 (λr hr=>hb r (by simp [hr]))
     have h2:=lendsX_reps hm hz hrest e2 (λr hr=>hb r (by simp [hr]))
     refine ⟨by simp [h2.len],λi c v hi hv=>?_⟩
     cases i with
     | zero=>simp only [List.getElem?_cons_zero,sI] at hi hv; subst hi; subst hv; exact h1
     | succ i=>simp only [List.getElem?_cons_succ] at hi hv; exact h2.rep i c v hi hv
theorem lendsX_kept:∀ {xs ys:List AV} {bs:List Nat},lendsX m xs=some (ys,bs)→∀ r∈bs,(m r).isSome=true
 | [],ys,bs,e=>by
   simp only [lendsX,sI,Prod.mk.injEq] at e
   obtain ⟨_,rfl⟩:=e
   intro r hr; cases hr
 | x::xs,ys,bs,e=>by
   simp only [lendsX] at e
   obtain ⟨y,b1,ys',b2,e1,e2,rfl,rfl⟩:=Zc0 e
   intro r hr
   rcases List.mem_append.1 hr with h | h
   · exact lendX_kept e1 r h
   · exact lendsX_kept e2 r h
def lentZ (θ:Nat→Value)(bs:List Nat)(Z:Nat→Prop):Nat→Prop:=λb=>Z b∨∃ r∈bs,bk (θ r) =some b
theorem lentZ_lt (hm:Mem X Z w θ m) {bs:List Nat}(hl:Lent m bs):∀ b,lentZ θ bs Z b→b < w.heap.size:=by
 rintro b (h | ⟨r,hr,hb⟩)
 · exact hm.zlt b h
 · obtain ⟨T,z,es,he⟩:=hl r hr
   exact hm.lt he hb
theorem lentZ_ltX (hm:Mem X Z w θ m) {bs:List Nat}(hl:∀ r∈bs,(m r).isSome=true):∀ b,lentZ θ bs Z b→b < w.heap.size:=by
 rintro b (h | ⟨r,hr,hb⟩)
 · exact hm.zlt b h
 · obtain ⟨blk,he⟩:=Option.isSome_iff_exists.1 (hl r hr)
   exact hm.lt he hb
theorem lentZ_glb (hm:Mem X Z w θ m)(bs:List Nat):Glb (lentZ θ bs Z) w:=⟨.inl hm.glb.1,hm.glb.2⟩
theorem lentZ_not (hm:Mem X Z w θ m) {bs:List Nat}(hl:Lent m bs) {r0 b:Nat} {cs:List AV}(h0:m r0=some (.cells cs))(hb:bk (θ r0) =some b)(hnZ:¬ Z b):¬ lentZ θ bs Z b:=by
 rintro (h | ⟨r,hr,hb'⟩)
 · exact hnZ h
 · obtain ⟨T,z,es,he⟩:=hl r hr
   have:=hm.disj r0 r b (by rw [h0]; rfl) (by rw [he]; rfl) hb hb'
   subst this
   rw [h0] at he; cases he
end
theorem back_rep {Z Z2:Nat→Prop} {w w':World} {θ:Nat→Value} {bs:List Nat}(hg:Grow (lentZ θ bs Z) w Z2 w'):(∀ b,Z b→Z2 b∧(Z b∨w.heap.size≤b))∧(bs= []→∀ b,Z2 b→Z2 b∧(Z b∨w.heap.size≤b)):=by
 refine ⟨λb h=>⟨hg.sub b (.inl h),.inl h⟩,λe b h=>⟨h,?_⟩⟩
 subst e
 rcases hg.new b h with (h1 | ⟨r,hr,_⟩) | h1
 · exact .inl h1
 · cases hr
 · exact .inr h1
section
variable {P:Program} {X:Cx} {Z:Nat→Prop} {w:World} {θ:Nat→Value} {a:Act} {σ:St} {p:List (Nat×Bool)}
theorem run_call {o:Oper} {c:Call} {f:Nat}(ho:o.op= .call c)(hc:c.callee= .value (.func f)) {fn:Func}(hf:P.funcs[f]? =some fn)(hb:fn.body.isSome=true)(hn:(fn.name == "runtime.NumGoroutine") =false):
 (execOp a.eval o).run P w= .ok (.enter f (c.args.map a.eval)) w:=by
 have hb':fn.body.isNone=false:=by
  cases h:fn.body with
  | none=>rw [h] at hb; cases hb
  | some _=>rfl
 have hn':¬ fn.name= "runtime.NumGoroutine":=by simpa using hn
 have hb'':¬ fn.body=none:=by rintro h; rw [h] at hb'; cases hb'
 simp [execOp,ho,resolve,hc,Act.eval,Deferred.ofValue,invoke,callFunc,hf,hn',hb'']
theorem run_callv {o:Oper} {c:Call} {f:Nat} {t:Nat}(ho:o.op= .call c)(hc:c.callee= .value (.tmp t))(hv:a.eval (.tmp t) = .func (.func f) #[] #[]) {fn:Func}(hf:P.funcs[f]? =some fn)(hb:fn.body.isSome=true)(hn:(fn.name == "runtime.NumGoroutine") =false):
 (execOp a.eval o).run P w= .ok (.enter f (c.args.map a.eval)) w:=by
 have hb':fn.body.isNone=false:=by
  cases h:fn.body with
  | none=>rw [h] at hb; cases hb
  | some _=>rfl
 have hn':¬ fn.name= "runtime.NumGoroutine":=by simpa using hn
 have hb'':¬ fn.body=none:=by rintro h; rw [h] at hb'; cases hb'
 simp [execOp,ho,resolve,hc,hv,Deferred.ofValue,invoke,callFunc,hf,hn',hb'']
theorem ok_enter {o:Oper} {f d:Nat}(hm:Mem X Z w θ σ.m) {args:Array Value}(hrun:(execOp a.eval o).run P w= .ok (.enter f args) w) {xs:List AV}(hreps:Reps Z w θ xs args.toList)
 {C:Option Ctr} (hC:∀ C',C=some C'→Sound P f C') {r:Res} (he:callR σ.m C xs=some r) (hpre:∀ q∈r.pre,q):OpOK P X Z w θ σ.m a o d r:=by
 unfold callR at he
 split at he
 · rename_i fn
   have hS:=hC _ rfl
   cases hl:lendsX σ.m xs with
   | none=>rw [hl] at he; cases he
   | some q=>
     obtain ⟨ys,bs⟩:=q
     rw [hl] at he
     simp only [callN] at he
     cases hfn:fn [] ys with
     | none=>rw [hfn] at he; cases he
     | some q=>
       obtain ⟨q,rv,cs'⟩:=q
       rw [hfn] at he
       simp only [callP] at he
       split at he<;>try (cases he; done)
       rename_i hcl
       simp only [Bool.and_eq_true] at hcl
       simp only [sI] at he; subst he
       have hlent:=lendsX_kept hl
       intro K Q hK
       unfold Oper.wp
       rw [hrun,Oper.upon_enter]
       have hargs:args=args.toList.toArray:=by simp
       rw [hargs]
       refine (hS (lentZ θ bs Z) w ys args.toList q rv cs' (lentZ_ltX hm hlent) (lentZ_glb hm bs) (lendsX_reps hm (λ_ h=> .inl h) hreps hl (λr hr b hb=> .inr ⟨r,hr,hb⟩)) hfn (hpre q (by simp))).mono ?_
       rintro e w' ⟨v,Z2,rfl,hfr,hgr,hrep⟩
       obtain ⟨hz1,hz2⟩:=back_rep hgr
       have hst:=hm.stepW (w':=w') (m':=σ.m) (Z':=λb=>Z2 b∧(Z b∨w.heap.size≤b)) none hz1 (λb h=>h.2) (λb h=>hgr.lt b h.1) hfr.os hfr.tape hfr.output hfr.size (λk hk _=>hfr.block k hk (λe=>e)) (λ_ _=>rfl) (λr h=>by cases h)
       refine hK v (λb=>Z2 b∧(Z b∨w.heap.size≤b)) w' θ ⟨?_,hst.2,λ_ _=>rfl,hst.1,by simp⟩
       cases bs with
       | nil=>exact (hrep.step (Goes.wider w' (hz2 rfl))).of_th0 rfl θ
       | cons b0 bs0=>exact hrep.flat2 hcl.2
 · rename_i fn
   have hS:=hC _ rfl
   split at he<;>try (cases he; done)
   rename_i r0 zs
   unfold callC at he
   split at he<;>try (cases he; done)
   rename_i cs hmr
   cases hl:lends σ.m zs with
   | none=>rw [hl] at he; cases he
   | some q =>
     obtain ⟨ys,bs⟩:=q
     rw [hl] at he
     simp only [callB] at he
     split at he<;>try (cases he; done)
     rename_i hcc
     cases hfn:fn cs ys with
     | none=>rw [hfn] at he; cases he
     | some q =>
       obtain ⟨q,rv,cs'⟩:=q
       rw [hfn] at he
       simp only [callS] at he
       split at he<;>try (cases he; done)
       rename_i hcl
       simp only [Bool.and_eq_true] at hcl
       obtain ⟨hrc,hcc',hbk⟩:=hcl
       simp only [sI] at he; subst he
       have hlent:=lends_lent hl
       obtain ⟨b,T,us,hθ,hheap,hnZ,hcells⟩:=hm.brep r0 _ hmr
       generalize hev:args.toList=evs at hreps
       cases evs with
       | nil=>have:=hreps.len; simp at this
       | cons v0 evs=>
         have h0:=hreps.rep 0 _ v0 rfl rfl
         have hrest:Reps Z w θ zs evs:=⟨by have:=hreps.len; simpa using this,λi c w' h1 h2=>hreps.rep (i+1) c w' (by simpa using h1) (by simpa using h2)⟩
         cases h0 with
         | ptr _ _ _ b' hθ'=>
           rw [hθ] at hθ'; simp at hθ'; subst hθ'
           intro K Q hK
           unfold Oper.wp
           rw [hrun,Oper.upon_enter]
           have hargs:args=(pt b::evs).toArray:=by
            apply Array.ext'; simp [hev]
           rw [hargs]
           have hnl:=lentZ_not hm hlent hmr (by rw [hθ]; rfl) hnZ
           refine (hS (lentZ θ bs Z) w b T cs us ys evs q rv cs' (lentZ_lt hm hlent) (lentZ_glb hm bs) hheap hnl ((hcells.step (Goes.wider w (λ_ h=> .inl h))).th_clean hcc th0) (lends_reps hm (λ_ h=> .inl h) hrest hl (λr hr b hb=> .inr ⟨r,hr,hb⟩)) hfn (hpre q (by simp))).mono ?_
           rintro e w' ⟨v,Z2,T',us',rfl,hfr,hgr,hheap',hcells',hrep⟩
           obtain ⟨hz1,hz2⟩:=back_rep hgr
           have hnZ':¬ Z2 b:=by
            intro hb'
            rcases hgr.new b hb' with h | h
            · exact hnl h
            · have:=Qn0 hheap; omega
           have hflat:Rep (λb=>Z2 b∧(Z b∨w.heap.size≤b)) w' θ rv v∧Cells (λb=>Z2 b∧(Z b∨w.heap.size≤b)) w' θ cs' us':=by
            cases bs with
            | nil=>exact ⟨(hrep.step (Goes.wider w' (hz2 rfl))).of_th0 rfl θ,(hcells'.step (Goes.wider w' (hz2 rfl))).of_th0 θ⟩
            | cons b0 bs0=>
              simp only [backOK,Bool.and_eq_true] at hbk
              exact ⟨hrep.flat2 hbk.1,hcells'.flat hbk.2⟩
           have hst:=hm.stepW (w':=w') (m':=updL σ.m [(r0,.cells cs')]) (Z':=λb=>Z2 b∧(Z b∨w.heap.size≤b)) (some r0) hz1 (λb h=>h.2) (λb h=>hgr.lt b h.1) hfr.os hfr.tape hfr.output hfr.size (λk hk hne=>hfr.block k hk (by
            intro e; subst e; exact hne r0 rfl (by rw [hθ]; rfl))) (λr' hr'=>by
            have:r'≠r0:=λe=>hr' (by rw [e])
            simp [updL,updM,this]) (λr' hr'=>by
            simp only [sI] at hr'; subst hr'
            refine ⟨by simp [hmr],λblk hblk=>?_⟩
            simp [updL,updM] at hblk
            subst hblk
            exact ⟨b,T',us',hθ,hheap',λh=>hnZ' h.1,hflat.2⟩)
           exact hK v _ w' θ ⟨hflat.1,hst.2,λ_ _=>rfl,hst.1,by simp⟩
 · cases he
theorem flat_flatten {es:List (List AV)}(h:FlatE es):es.flatten.all AV.flat0=true:=by
 rw [List.all_eq_true]
 intro c hc
 obtain ⟨e,he,hce⟩:=List.mem_flatten.1 hc
 exact List.all_eq_true.1 (h e he) c hce
theorem ok_own {o:Oper} {f d:Nat}(hm:Mem X Z w θ σ.m) {args:Array Value}(hrun:(execOp a.eval o).run P w= .ok (.enter f args) w) {xs:List AV}(hreps:Reps Z w θ xs args.toList)
 {T:Nat} {z:List AV} {fn:List AV→Option (Prop×List (List AV))} (hS:Sound P f (.own T z fn)) {r:Res} (he:ownW d T z fn (lends σ.m xs) =some r) (hpre:∀ q∈r.pre,q):OpOK P X Z w θ σ.m a o d r:=by
 cases hl:lends σ.m xs with
 | none=>rw [hl] at he; cases he
 | some q=>
   obtain ⟨ys,bs⟩:=q
   rw [hl] at he
   simp only [ownW] at he
   cases hfn:fn ys with
   | none=>rw [hfn] at he; cases he
   | some q=>
     obtain ⟨q,es⟩:=q
     rw [hfn] at he
     simp only [sI] at he; subst he
     have hlent:=lends_lent hl
     have hfl:=hpre (backF bs es) (by simp)
     intro K Q hK
     unfold Oper.wp
     rw [hrun,Oper.upon_enter]
     have hargs:args=args.toList.toArray:=by simp
     rw [hargs]
     refine (hS (lentZ θ bs Z) w ys args.toList q es (lentZ_lt hm hlent) (lentZ_glb hm bs) (lends_reps hm (λ_ h=> .inl h) hreps hl (λr hr b hb=> .inr ⟨r,hr,hb⟩)) hfn (hpre q (by simp))).mono ?_
     rintro e w' ⟨v,Z2,rfl,hfr,hgr,hrow⟩
     obtain ⟨hz1,hz2⟩:=back_rep hgr
     have hst:=hm.stepW (w':=w') (m':=σ.m) (Z':=λb=>Z2 b∧(Z b∨w.heap.size≤b)) none hz1 (λb h=>h.2) (λb h=>hgr.lt b h.1) hfr.os hfr.tape hfr.output hfr.size (λk hk _=>hfr.block k hk (λe=>e)) (λ_ _=>rfl) (λr h=>by cases h)
     obtain ⟨us,hown,hcs⟩:=hrow.own
     have hcs':Cells (λb=>Z2 b∧(Z b∨w.heap.size≤b)) w' th0 es.flatten us:=by
      cases bs with
      | nil=>exact hcs.step (Goes.wider w' (hz2 rfl))
      | cons b0 bs0=>exact hcs.flat (flat_flatten hfl)
     obtain ⟨ad,n,c,rfl⟩:=hrow.sl
     refine hK _ (λb=>Z2 b∧(Z b∨w.heap.size≤b)) w' (λk=>if k=64 * d+64 then .slice ad n c else θ k) ⟨.vw _ _ _ _ _ _ _ _ (by simp),hst.2,λk hk=>?_,?_,by simp⟩
     · have:=hk _ _ rfl
       simp [this]
     · refine hst.1.put1 (64 * d+64) _ (.buf T z es) (by omega) ?_ ?_ ?_
       · refine ⟨hrow.z0,hrow.rows,us,by simpa using hown,?_,hcs'⟩
         intro b hb hzb
         simp only [if_true] at hb
         exact (hrow.new b hb).2 hzb.1
       · intro r' blk' _ hr' b hb hb2
         have:=(hrow.new b hb).1
         have:=hm.lt hr' hb2
         omega
       · intro b hb
         have:=(hrow.new b hb).1
         have:=hm.frame.size
         exact .inl (by omega)
theorem ok_enterE {o:Oper} {f d:Nat}(hm:Mem X Z w θ σ.m) {args:Array Value}(hrun:(execOp a.eval o).run P w= .ok (.enter f args) w) {xs:List AV}(hreps:Reps Z w θ xs args.toList)
 {C:Option Ctr} (hC:∀ C',C=some C'→Sound P f C') {r:Res} (he:callE d σ.m C xs=some r) (hpre:∀ q∈r.pre,q):OpOK P X Z w θ σ.m a o d r:=by
 unfold callE at he
 split at he
 · exact ok_own hm hrun hreps (hC _ rfl) he hpre
 · exact ok_enter hm hrun hreps hC he hpre
 · cases he
end
end Go.Ev
namespace Go.Ev
open Go Go.RowKit
section
variable {P:Program} {X:Cx} {Z:Nat→Prop} {w:World} {θ:Nat→Value} {a:Act} {σ:St} {p:List (Nat×Bool)}
theorem elem_of {t e:TypeId}(h:P.underlying t=some (.slice e)):P.underlying t=some (.slice (P.elem t))∧P.elem t=e:=by
 have:P.elem t=e:=by simp [Program.elem,h]
 exact ⟨by rw [this]; exact h,this⟩
theorem run_slice_opt {t e:TypeId}(hu:P.underlying t=some (.slice e)) {s:Nat}(hs:sizeP P e=some s)(ad:Option Addr)(len cap:Nat) {lo hi:Option Value} {l h:Int}
 (hl:(lo=none∧l=0)∨∃ k,lo=some (.int k l)) (hh:(hi=none∧h=len)∨∃ k,hi=some (.int k h)) (h0:0≤l) (h1:l≤h) (h2:h≤len) (h3:len≤cap):
 (Instr.sliceAt t (.slice ad len cap) lo hi none).run P w= .ok (.slice (if cap=l.toNat then ad else ad.map (·.add (l.toNat * s))) (h.toNat - l.toNat) (cap - l.toNat)) w:=by
 obtain ⟨hu',he⟩:=elem_of hu
 have hsz:(sizeOf (P.elem t)).run P w= .ok s w:=by rw [he]; exact Qm0 hs w
 rw [run_sliceAt_slice w t _ _ _ _ hu']
 rcases hl with ⟨rfl,rfl⟩ | ⟨kl,rfl⟩
 · rcases hh with ⟨rfl,rfl⟩ | ⟨kh,rfl⟩
   · rw [run_slice_all w t ad len cap hu',hsz]; simp [sliced]
   · rw [run_slice_h w t ad len cap hu' kh h (by omega) (by omega),hsz]; simp [sliced]
 · rcases hh with ⟨rfl,rfl⟩ | ⟨kh,rfl⟩
   · rw [run_slice_l w t ad len cap hu' kl l h0 h1,hsz]; simp [sliced]
   · rw [run_slice_lh w t ad len cap hu' kl kh l h h0 h1 (by omega),hsz]; simp [sliced]
variable (hs:∀ k,SRep Z w θ a.tmps (σ.s k) (a.tmps.getD k undef))(hp:pathT a.tmps p)
include hs hp
theorem bound_lo {x:Option Operand} {x':Option A}(hc:compO x=some x') {y:Option AV}(h:boundA σ p x'=some y) {l:Int}(hl:loOf y=some l):(x.map a.eval=none∧l=0)∨∃ k,x.map a.eval=some (.int k l):=by
 cases x with
 | none=>
   simp only [compO,sI] at hc; subst hc
   simp only [boundA,sI] at h; subst h
   simp only [loOf,sI] at hl; subst hl
   exact .inl ⟨rfl,rfl⟩
 | some x=>
   simp only [compO] at hc
   obtain ⟨x1,hx,rfl⟩:=Option.map_eq_some_iff.1 hc
   simp only [boundA] at h
   obtain ⟨v,hv,rfl⟩:=Option.map_eq_some_iff.1 h
   have hr:=av_rep hs hp hx hv
   cases v<;>simp [loOf] at hl
   subst hl
   simp only [Option.map_some]
   generalize a.eval x=u at hr
   cases hr
   exact .inr ⟨_,rfl⟩
theorem bound_hi {x:Option Operand} {x':Option A}(hc:compO x=some x') {y:Option AV}(h:boundA σ p x'=some y) {n:Nat} {l:Int}(hl:hiOf n y=some l):(x.map a.eval=none∧l=n)∨∃ k,x.map a.eval=some (.int k l):=by
 cases x with
 | none=>
   simp only [compO,sI] at hc; subst hc
   simp only [boundA,sI] at h; subst h
   simp only [hiOf,sI] at hl; subst hl
   exact .inl ⟨rfl,rfl⟩
 | some x=>
   simp only [compO] at hc
   obtain ⟨x1,hx,rfl⟩:=Option.map_eq_some_iff.1 hc
   simp only [boundA] at h
   obtain ⟨v,hv,rfl⟩:=Option.map_eq_some_iff.1 h
   have hr:=av_rep hs hp hx hv
   cases v<;>simp [hiOf] at hl
   subst hl
   simp only [Option.map_some]
   generalize a.eval x=u at hr
   cases hr
   exact .inr ⟨_,rfl⟩
omit hs hp in
theorem lst_part {z:List AV} {es:List (List AV)} {ad:Option Addr} {cap:Nat}(h:Rep Z w θ (.lst z es) (.slice ad es.length cap)) {l h':Nat}(h0:l≤h')(h1:h'≤es.length)(sz:Nat)(hsz:z.length=sz):
 Rep Z w θ (.lst z ((es.drop l).take (h' - l))) (.slice (if cap=l then ad else ad.map (·.add (l * sz))) (h' - l) (cap - l)):=by
 subst hsz
 generalize hv:Value.slice ad es.length cap=v at h
 cases h with
 | lst _ _ _ a cap' f hc hm hz hat hmem h1' h=>
   simp only [Value.slice.injEq,true_and] at hv
   obtain ⟨rfl,rfl⟩:=hv
   have hlen:((es.drop l).take (h' - l)).length=h' - l:=by simp; omega
   have hcell:∀ (i j:Nat) (c:AV),cellAt ((es.drop l).take (h' - l)) i j=some c→cellAt es (l+i) j=some c:=by
    intro i j c hcc
    unfold cellAt at hcc ⊢
    rw [List.getElem?_take] at hcc
    split at hcc
    · rw [List.getElem?_drop] at hcc; exact hcc
    · cases hcc
   have hmemE:∀ e∈(es.drop l).take (h' - l),e∈es:=λe he=>List.mem_of_mem_drop (List.mem_of_mem_take he)
   conv=>arg 5; arg 2; rw [← hlen]
   refine .lst θ z _ _ _ (λi j=>f (l+i) j) (by rw [hlen]; omega) (by omega) (λe he=>hz e (hmemE e he)) (λe he=>hat e (hmemE e he)) ?_ (λi j c hcc=>h1' _ j c (hcell i j c hcc)) (λi j c hcc=>h _ j c (hcell i j c hcc))
   intro hne
   have hlt:l < h':=by
    rcases Nat.lt_or_ge l h' with h | h
    · exact h
    · rw [show h' - l=0 by omega] at hne; simp at hne
   have hne':es≠ []:=by rintro rfl; simp at h1; omega
   obtain ⟨b,o,rfl,hZ,hmm⟩:=hmem hne'
   refine ⟨b,o+l * z.length,?_,hZ,λi j c hcc=>?_⟩
   · rw [if_neg (by omega)]
     simp [Qp0]
   · have:=hmm _ j c (hcell i j c hcc)
     rw [show o+l * z.length+(i * z.length+j) =o+((l+i) * z.length+j) by rw [Nat.add_mul]; omega]
     exact this
theorem ok_slice (hm:Mem X Z w θ σ.m) {o:Oper} {t e:TypeId} {x:Operand} {lo hi:Option Operand}(ho:o.op= .slice t x lo hi none)(hu:P.underlying t=some (.slice e)) {sz:Nat}(hsz:sizeP P e=some sz)
 {x':A} {lo' hi':Option A} (hx:compA x=some x') (hl:compO lo=some lo') (hh:compO hi=some hi') {r:Res} (he:sliceO σ.m sz (av σ p x') (boundA σ p lo') (boundA σ p hi') =some r) (hpre:∀ q∈r.pre,q):Calm P Z w θ a o r:=by
 unfold sliceO at he
 split at he<;>try (cases he; done)
 rename_i vx vl vh hvx hvl hvh
 have hrx:=av_rep hs hp hx hvx
 have hrun:∀ (ad:Option Addr) (len cap:Nat) (l h:Int),a.eval x= .slice ad len cap→loOf vl=some l→hiOf len vh=some h→0≤l→l≤h→h≤len→len≤cap→
  (execOp a.eval o).run P w= .ok (.value (.slice (if cap=l.toNat then ad else ad.map (·.add (l.toNat * sz))) (h.toNat - l.toNat) (cap - l.toNat))) w:=by
  intro ad len cap l h hv h1 h2 h3 h4 h5 h6
  have:=run_slice_opt (P:=P) (w:=w) hu hsz ad len cap (bound_lo hs hp hl hvl h1) (bound_hi hs hp hh hvh h2) h3 h4 h5 h6
  simp only [execOp,ho,Sem.run_bind,hv]
  simp only [Option.map_none]
  rw [this]; rfl
 generalize hv:a.eval x=v at hrx hrun
 unfold sliceR at he
 split at he
 · rename_i z es
   split at he<;>try (cases he; done)
   rename_i l h h1 h2 h3
   have h3:z.length=sz:=by simpa using h3
   simp only [sI] at he; subst he
   obtain ⟨hb1,hb2,hb3⟩:=hpre (0≤l∧l≤h∧h≤es.length) (by simp)
   have hrx0:=hrx
   cases hrx with
   | lst _ _ _ ad cap f hc hmx hz hat hmem h1' hh'=>
     refine ⟨rfl,rfl,by simp,_,hrun ad es.length cap l h rfl h1 h2 hb1 hb2 hb3 hc,?_⟩
     exact lst_part hrx0 (by omega) (by omega) sz h3
 · split at he<;>try (cases he; done)
   rename_i l h h1 h2
   simp only [sI] at he; subst he
   obtain ⟨hb1,hb2⟩:=hpre (l=0∧h=0) (by simp)
   subst hb1; subst hb2
   cases hrx
   refine ⟨rfl,rfl,by simp,_,hrun none 0 0 0 0 rfl h1 h2 (by omega) (by omega) (by omega) (by omega),?_⟩
   simp only [Int.toNat_zero,if_true,Nat.sub_self]
   exact .nil θ
 · rename_i r0 _ _ _
   unfold slB at he
   split at he<;>try (cases he; done)
   rename_i T z es hmr
   split at he<;>try (cases he; done)
   rename_i l h h1 h2 h3
   have h3:z.length=sz:=by simpa using h3
   simp only [sI] at he; subst he
   obtain ⟨hb1,hb2,hb3⟩:=hpre (0≤l∧l≤h∧h≤es.length) (by simp)
   obtain ⟨hz0,hrows,xs,hown,_,hcs⟩:=hm.brep r0 _ hmr
   cases hrx with
   | vw _ _ _ _ _ a' n' c' hθ=>
     rw [hθ] at hown
     have key:n'=es.length∧es.length≤c'∧c'≤maxLen∧(0 < n'→∃ g,a'=some ⟨g,0,none⟩):=by
      rcases hown.2 with ⟨hv,h0⟩ | ⟨g,cap,cur,hv,_,_,hnc,hcm,_⟩
      · cases hv; exact ⟨h0.symm,by omega,by unfold maxLen; omega,by omega⟩
      · cases hv; exact ⟨rfl,hnc,hcm,λ_=>⟨g,rfl⟩⟩
     obtain ⟨k1,k2,k3,k4⟩:=key
     subst k1
     refine ⟨rfl,rfl,by simp,_,hrun a' es.length c' l h rfl h1 h2 hb1 hb2 hb3 k2,?_⟩
     refine .sv _ _ _ _ _ a' es.length c' _ _ hθ (by omega) (by omega) ?_ (by omega) (by omega)
     intro hlt
     obtain ⟨g,rfl⟩:=k4 (by omega)
     refine ⟨g,rfl,?_⟩
     rw [if_neg (by omega)]
     simp [Qp0]
 · rename_i r0 sz' lo0 hi0
   split at he<;>try (cases he; done)
   rename_i hsz'
   have hsz':sz'=sz:=by simpa using hsz'
   subst hsz'
   unfold slP at he
   split at he<;>try (cases he; done)
   rename_i T z es hmr
   split at he<;>try (cases he; done)
   rename_i l h h1 h2 h3
   simp only [sI] at he; subst he
   obtain ⟨hb1,hb2,hb3⟩:=hpre (0≤l∧l≤h∧h≤((hi0 - lo0:Nat):Int)) (by simp)
   cases hrx with
   | sv _ _ _ _ _ a0 n0 c0 a' c' hθ e1 e2 e3 e4 e5=>
     refine ⟨rfl,rfl,by simp,_,hrun a' (hi0 - lo0) c' l h rfl h1 h2 hb1 hb2 hb3 e4,?_⟩
     have:=Rep.sv (Z:=Z) (w:=w) θ r0 sz' (lo0+l.toNat) (lo0+h.toNat) a0 n0 c0 (if c'=l.toNat then a' else a'.map (·.add (l.toNat * sz'))) (c' - l.toNat) hθ (by omega) (by omega) ?_ (by omega) (by omega)
     · rw [show lo0+h.toNat - (lo0+l.toNat) =h.toNat - l.toNat by omega] at this
       exact this
     · intro hlt
       obtain ⟨g,ea,eb⟩:=e3 (by omega)
       refine ⟨g,ea,?_⟩
       rw [if_neg (by omega),eb]
       simp only [Option.map_some,Qp0]
       rw [Nat.add_mul]
 · cases he
omit hs hp in
theorem toList_madeCells (vs:List Value)(s:Nat)(hl:vs.length=s)(hs0:s≠0)(n:Nat):(madeCells vs.toArray (n * s)).toList=(List.replicate n vs).flatten:=by
 have:=range_zero vs n s hl hs0
 unfold madeCells
 rw [this]
theorem ok_mkslice (hm:Mem X Z w θ σ.m) {o:Oper} {d:Nat} {t e:TypeId} {l c:Operand}(ho:o.op= .makeSlice t l c)(hu:P.underlying t=some (.slice e)) {i:TypeInfo}(hi:P.info? e=some i) {z:List AV}(hz:zeroP P e=some z)(hzl:z.length=i.size)(hs0:i.size≠0)
 {l' c':A} (hl:compA l=some l') (hc:compA c=some c') {r:Res} (he:bind2 (av σ p l') (av σ p c') (mkR e i.bytes z d) =some r) (hpre:∀ q∈r.pre,q):OpOK P X Z w θ σ.m a o d r:=by
 obtain ⟨vl,vc,hvl,hvc,h⟩:=Qd0 he
 have hrl:=av_rep hs hp hl hvl
 have hrc:=av_rep hs hp hc hvc
 unfold mkR at h
 split at h<;>try (cases h; done)
 rename_i kl ln kc cn
 simp only [sI] at h; subst h
 obtain ⟨h0,h1,h2,h3⟩:=hpre (0≤ln∧ln≤cn∧(i.bytes:Int) * cn≤281474976710656∧cn≤9223372036854775807) (by simp)
 generalize el:a.eval l=v1 at hrl
 generalize ec:a.eval c=v2 at hrc
 cases hrl; cases hrc
 obtain ⟨zv,hzv,hzc⟩:∃ zv,i.zero=some zv∧constAVs zv.cells.toList=some z:=by
  unfold zeroP at hz
  rw [hi] at hz
  simp only [Option.bind_some] at hz
  split at hz
  · rename_i zv hzv; exact ⟨zv,hzv,hz⟩
  · cases hz
 have hcells:=(Qq0 (Z:=Z) (w:=w) (θ:=th0) hzc).1
 have hrun:=run_make (P:=P) w t e i zv hu hi hzv kl kc ln cn h0 h1 h2 h3
 have hex:(execOp a.eval o).run P w= .ok (.value (.slice (some ⟨w.heap.size,0,none⟩) ln.toNat cn.toNat)) (w.alloc (.cells (madeCells zv.cells (cn.toNat * i.size)) e)):=by
  simp only [execOp,ho,Sem.run_bind,el,ec]
  rw [hrun]; rfl
 have hzl':zv.cells.toList.length=i.size:=by rw [hcells.len,hzl]
 have hlist:(madeCells zv.cells (cn.toNat * i.size)).toList=(List.replicate cn.toNat zv.cells.toList).flatten:=by
  have:=toList_madeCells zv.cells.toList i.size hzl' hs0 cn.toNat
  simpa using this
 have hll:(List.replicate ln.toNat z).length=ln.toNat:=by simp
 have hrows:∀ e∈List.replicate ln.toNat z,e.length=z.length:=λe he=>by rw [(List.mem_replicate.1 he).2]
 have hcl:=Qz0 (hcells) ln.toNat
 rw [← hll] at hex
 refine ok_newB hm (by rintro rfl; simp at hzl; omega) hrows hcl ?_ hex
 have hsz:(madeCells zv.cells (cn.toNat * i.size)).size=cn.toNat * i.size:=size_madeCells _ _
 refine ⟨?_,.inr ⟨w.heap.size,cn.toNat,_,by rw [hll],Nat.zero_le _,heap_alloc_new w _,by rw [hll]; omega,by unfold maxLen; omega,by rw [hzl]; exact hsz,?_⟩⟩
 · rw [hcl.len,Qv0 hrows]
 · rw [hlist,hll,hzl]
   have hz':∀ e∈List.replicate cn.toNat zv.cells.toList,e.length=i.size:=λe he=>by rw [(List.mem_replicate.1 he).2,hzl']
   have e1:∀ (n k:Nat),k≤n→((List.replicate n zv.cells.toList).flatten).take (k * i.size) =(List.replicate k zv.cells.toList).flatten:=by
    intro n
    induction n with
    | zero=>intro k hk; simp at hk; subst hk; simp
    | succ n ih=>
      intro k hk
      cases k with
      | zero=>simp
      | succ k=>
        rw [List.replicate_succ,List.replicate_succ,List.flatten_cons,List.flatten_cons,show (k+1) * i.size=zv.cells.toList.length+k * i.size by rw [hzl',Nat.add_mul]; omega,List.take_length_add_append,ih k (by omega)]
   exact e1 _ _ (by omega)
theorem ok_mkF (hm:Mem X Z w θ σ.m) {o:Oper} {d:Nat} {t e:TypeId} {l c:Operand}(ho:o.op= .makeSlice t l c)(hu:P.underlying t=some (.slice e)) {i:TypeInfo}(hi:P.info? e=some i) {z:List AV}(hz:zeroP P e=some z)(hzl:z.length=i.size)(hs0:i.size≠0)
 {l' c':A} (hl:compA l=some l') (hc:compA c=some c') {r:Res} (he:bind2 (av σ p l') (av σ p c') (mkFR i.bytes z) =some r) (hpre:∀ q∈r.pre,q):OpOK P X Z w θ σ.m a o d r:=by
 obtain ⟨vl,vc,hvl,hvc,h⟩:=Qd0 he
 have hrl:=av_rep hs hp hl hvl
 have hrc:=av_rep hs hp hc hvc
 unfold mkFR at h
 split at h<;>try (cases h; done)
 rename_i kl ln kc cn
 simp only [sI] at h; subst h
 obtain ⟨h0,h1,h2,h3⟩:=hpre (0≤ln∧ln≤cn∧(i.bytes:Int) * cn≤281474976710656∧cn≤9223372036854775807) (by simp)
 generalize el:a.eval l=v1 at hrl
 generalize ec:a.eval c=v2 at hrc
 cases hrl; cases hrc
 obtain ⟨zv,hzv,hzc⟩:∃ zv,i.zero=some zv∧constAVs zv.cells.toList=some z:=by
  unfold zeroP at hz
  rw [hi] at hz
  simp only [Option.bind_some] at hz
  split at hz
  · rename_i zv hzv; exact ⟨zv,hzv,hz⟩
  · cases hz
 have hcells:=(Qq0 (Z:=Z) (w:=w) (θ:=th0) hzc).1
 have hrun:=run_make (P:=P) w t e i zv hu hi hzv kl kc ln cn h0 h1 h2 h3
 have hex:(execOp a.eval o).run P w= .ok (.value (.slice (some ⟨w.heap.size,0,none⟩) ln.toNat cn.toNat)) (w.alloc (.cells (madeCells zv.cells (cn.toNat * i.size)) e)):=by
  simp only [execOp,ho,Sem.run_bind,el,ec]
  rw [hrun]; rfl
 have hzl':zv.cells.toList.length=i.size:=by rw [hcells.len,hzl]
 have hlist:(madeCells zv.cells (cn.toNat * i.size)).toList=(List.replicate cn.toNat zv.cells.toList).flatten:=by
  have:=toList_madeCells zv.cells.toList i.size hzl' hs0 cn.toNat
  simpa using this
 have hll:(List.replicate ln.toNat z).length=ln.toNat:=by simp
 have hrows:∀ e∈List.replicate ln.toNat z,e.length=z.length:=λe he=>by rw [(List.mem_replicate.1 he).2]
 have hcl:=Qz0 (hcells) ln.toNat
 have hsz:(madeCells zv.cells (cn.toNat * i.size)).size=cn.toNat * i.size:=size_madeCells _ _
 intro K Q hK
 obtain ⟨h1,g⟩:=hm.alloc (.cells (madeCells zv.cells (cn.toNat * i.size)) e) (λb=>Z b∨b=w.heap.size) (λ_ h=> .inl h) (λ_ h=>h)
 refine Qo0 hex (hK _ _ _ θ ⟨?_,g,λ_ _=>rfl,h1,by simp⟩)
 have hnew:(w.alloc (.cells (madeCells zv.cells (cn.toNat * i.size)) e)).heap[w.heap.size]? =some (.cells (madeCells zv.cells (cn.toNat * i.size)) e (0,0)):=heap_alloc_new w _
 have e1:∀ (n k:Nat),k≤n→((List.replicate n zv.cells.toList).flatten).take (k * i.size) =(List.replicate k zv.cells.toList).flatten:=by
  intro n
  induction n with
  | zero=>intro k hk; simp at hk; subst hk; simp
  | succ n ih=>
    intro k hk
    cases k with
    | zero=>simp
    | succ k=>
      have hz':zv.cells.toList.length=i.size:=hzl'
      rw [List.replicate_succ,List.replicate_succ,List.flatten_cons,List.flatten_cons,show (k+1) * i.size=zv.cells.toList.length+k * i.size by rw [hz',Nat.add_mul]; omega,List.take_length_add_append,ih k (by omega)]
 have e2:=e1 cn.toNat ln.toNat (by omega)
 have hfl:((List.replicate ln.toNat zv.cells.toList).flatten).length=ln.toNat * i.size:=by
  rw [hcl.len,Qv0 hrows,hll,hzl]
 have:=rep_lst (Z:=λb=>Z b∨b=w.heap.size) (w:=w.alloc (.cells (madeCells zv.cells (cn.toNat * i.size)) e)) (θ:=θ) (z:=z) (es:=List.replicate ln.toNat z) (us:=(List.replicate ln.toNat zv.cells.toList).flatten) (b:=w.heap.size) (cap:=cn.toNat) hrows ((hcl).step g) (by rw [hll]; omega) (by unfold maxLen; omega) (.inr rfl) (λj v hj=>by
  rw [cell_of_row _ _ _ _ _ _ hnew]
  have hlt:j < ln.toNat * i.size:=by
   have:=(List.getElem?_eq_some_iff.1 hj).1
   omega
  have e3:(madeCells zv.cells (cn.toNat * i.size))[j]? =(madeCells zv.cells (cn.toNat * i.size)).toList[j]?:=by simp
  rw [← e2,List.getElem?_take_of_lt hlt] at hj
  rw [hlist] at e3
  simpa [e3] using hj)
 rw [hll] at this; exact this
omit hs hp in
theorem Zs0 {src dst e:TypeId}(h1:P.underlying src=some (.slice e))(he:P.underlying e=some (.int .u8))(hd:P.underlying dst=some .string) {es:List (List AV)}(hB:ByteE es) {ad:Option Addr} {c:Nat} {news:List Value}(hn:es.length≠0→ad.isSome=true)(hl:news.length=es.length * 1)
 (hcell:∀ a0,ad=some a0→∀ (j:Nat) (u:Value),news[j]? =some u→w.cell? (a0.add j) =some u) (hcs:Cells Z w th0 es.flatten news):(convert src dst (.slice ad es.length c)).run P w= .ok (.string ⟨(bytesOf es).toArray⟩) w:=by
 have key:∀ (es:List (List AV)) (news:List Value),ByteE es→Cells Z w th0 es.flatten news→∃ ns:List Int,news=ns.map (Value.int .u8)∧bytesOf es=ns.map (λn=>UInt8.ofNat n.toNat):=by
  intro es
  induction es with
  | nil=>
    intro news _ hc
    have:=hc.len
    simp at this
    subst this
    exact ⟨[],rfl,rfl⟩
  | cons e0 es ih=>
    intro news hB hc
    obtain ⟨n,rfl⟩:=hB e0 (by simp)
    cases news with
    | nil=>have:=hc.len; simp at this
    | cons u us=>
      have h0:=hc.rep 0 (.int .u8 n) u (by simp) rfl
      cases h0
      obtain ⟨ns,rfl,hb⟩:=ih us (λe he=>hB e (by simp [he])) (by have:=hc.drop 1; simpa using this)
      exact ⟨n::ns,rfl,by simp [bytesOf,byteOf] at hb ⊢; exact hb⟩
 obtain ⟨ns,rfl,hb⟩:=key es news hB hcs
 rw [run_convert_bytes_string w src dst e ad _ c h1 he hd]
 have hfold:∀ (ns:List Int) (r:ByteArray),ns.foldl (λr n=>r.push (UInt8.ofNat n.toNat)) r= ⟨r.data ++ (ns.map λn=>UInt8.ofNat n.toNat).toArray⟩:=by
  intro ns
  induction ns with
  | nil=>intro r; simp
  | cons n ns ih=>
    intro r
    simp only [List.foldl_cons,ih,List.map_cons]
    simp [ByteArray.push]
 cases ad with
 | none=>
   have:es.length=0:=by
    rcases Nat.eq_zero_or_pos es.length with h | h
    · exact h
    · have:=hn (by omega); simp at this
   have:ns= []:=by
    rw [this] at hl; simp at hl; exact hl
   subst this
   simp at hb
   simp [Conv.bytesToString,hb]
   rfl
 | some a0=>
   have hload:=run_loadCells_list (P:=P) w a0 (ns.map (Value.int .u8)) (hcell a0 rfl)
   rw [hl,Nat.mul_one] at hload
   rw [run_bytesToString w a0 es.length c ns hload,hfold,hb]
   have he0:ByteArray.empty.data= #[]:=rfl
   rw [he0]
   simp
theorem calm_b2s (hm:Mem X Z w θ σ.m) {o:Oper} {src dst e:TypeId} {x:Operand}(ho:o.op= .convert src dst x)(h1:P.underlying src=some (.slice e))(he':P.underlying e=some (.int .u8))(hd:P.underlying dst=some .string) {x':A}(hx:compA x=some x') {r:Res}
 (he:bind1 (av σ p x') (b2sR σ.m) =some r) (hpre:∀ q∈r.pre,q):Calm P Z w θ a o r:=by
 obtain ⟨y,hy,h⟩:=Qe0 he
 have hr:=av_rep hs hp hx hy
 have hrun:∀ (v:Value) (s:List UInt8),a.eval x=v→(convert src dst v).run P w= .ok (.string ⟨s.toArray⟩) w→(execOp a.eval o).run P w= .ok (.value (.string ⟨s.toArray⟩)) w:=by
  intro v s hv hc
  simp only [execOp,ho,Sem.run_bind,hv]
  rw [hc]; rfl
 generalize hv:a.eval x=v at hr hrun
 unfold b2sR at h
 split at h
 · simp only [Res.q,sI] at h; subst h
   cases hr
   refine ⟨rfl,rfl,by simp,_,hrun _ [] rfl ?_,.str _ _⟩
   have:=Zs0 (P:=P) (Z:=Z) (w:=w) h1 he' hd (es:=[]) (by intro e he; cases he) (ad:=none) (c:=0) (news:=[]) (by simp) (by simp) (by simp) (Cells.nil _ _ _)
   simpa [bytesOf] using this
 · rename_i z es
   split at h<;>try (cases h; done)
   rename_i hz1
   simp only [sI] at h; subst h
   have hB:=hpre (ByteE es) (by simp)
   obtain ⟨hrows,ad,c,news,hv',hn,hl,hcell,hcs⟩:=reads_lst (by omega) hr
   rw [hz1] at hl
   subst hv'
   exact ⟨rfl,rfl,by simp,_,hrun _ _ rfl (Zs0 h1 he' hd hB hn hl hcell hcs),.str _ _⟩
 · rename_i r0 _ _ _
   unfold b2sB at h
   split at h<;>try (cases h; done)
   rename_i T z es hmr
   split at h<;>try (cases h; done)
   rename_i hz1
   simp only [sI] at h; subst h
   have hB:=hpre (ByteE es) (by simp)
   obtain ⟨⟨hrows,ad,c,news,hv',hn,hl,hcell,hcs⟩,_⟩:=reads_buf hm hmr hr
   rw [hz1] at hl
   subst hv'
   exact ⟨rfl,rfl,by simp,_,hrun _ _ rfl (Zs0 h1 he' hd hB hn hl hcell hcs),.str _ _⟩
 · rename_i r0 sz lo hi
   unfold b2sP at h
   split at h<;>try (cases h; done)
   rename_i T z es hmr
   split at h<;>try (cases h; done)
   rename_i hz1
   simp only [Bool.and_eq_true,beq_iff_eq] at hz1
   obtain ⟨hz1,rfl⟩:=hz1
   simp only [sI] at h; subst h
   have hB:=hpre (ByteE ((es.drop lo).take (hi - lo))) (by simp)
   rw [← hz1] at hr
   obtain ⟨hrows,ad,c,news,hv',hn,hl,hcell,hcs⟩:=reads_part hm hmr hr
   rw [hz1] at hl
   subst hv'
   exact ⟨rfl,rfl,by simp,_,hrun _ _ rfl (Zs0 h1 he' hd hB hn hl hcell hcs),.str _ _⟩
 · cases h
theorem ok_s2b (hm:Mem X Z w θ σ.m) {o:Oper} {d:Nat} {src dst e:TypeId} {x:Operand}(ho:o.op= .convert src dst x)(h1:P.underlying src=some .string)(hd:P.underlying dst=some (.slice e))(he':P.underlying e=some (.int .u8)) {x':A}(hx:compA x=some x') {r:Res}
 (he:bind1 (av σ p x') s2bR=some r) (hpre:∀ q∈r.pre,q):OpOK P X Z w θ σ.m a o d r:=by
 obtain ⟨y,hy,h⟩:=Qe0 he
 have hr:=av_rep hs hp hx hy
 unfold s2bR at h
 split at h<;>try (cases h; done)
 rename_i s
 simp only [sI] at h; subst h
 have hlen:s.length≤9223372036854775807:=hpre _ (by simp)
 generalize hv:a.eval x=v at hr
 cases hr
 have hrun:=run_bytes_of_string (P:=P) w src dst e ⟨s.toArray⟩ h1 hd he'
 have hsz:(ByteArray.mk s.toArray).size=s.length:=rfl
 rw [hsz] at hrun
 have hex:(execOp a.eval o).run P w= .ok (.value (.slice (some ⟨w.heap.size,0,none⟩) s.length (grownCap w s.length 0 e)))
  (w.drew.alloc (.cells (bytesRow ⟨s.toArray⟩ (grownCap w s.length 0 e)) e ((bytesRow ⟨s.toArray⟩ (grownCap w s.length 0 e)).size,(bytesRow ⟨s.toArray⟩ (grownCap w s.length 0 e)).size+1))):=by
  simp only [execOp,ho,Sem.run_bind,hv]
  rw [hrun]; rfl
 generalize hw':w.drew.alloc (.cells (bytesRow ⟨s.toArray⟩ (grownCap w s.length 0 e)) e ((bytesRow ⟨s.toArray⟩ (grownCap w s.length 0 e)).size,(bytesRow ⟨s.toArray⟩ (grownCap w s.length 0 e)).size+1)) =w' at hex
 have hsize:w'.heap.size=w.heap.size+1:=by subst hw'; exact World.size_alloc ..
 have hold:∀ k,k < w.heap.size→w'.heap[k]? =w.heap[k]?:=λk hk=>by subst hw'; exact Zn0 w.drew _ k hk
 obtain ⟨m1,g⟩:=hm.stepW (w':=w') (m':=σ.m) (Z':=λb=>Z b∨b=w.heap.size) none (λ_ h=> .inl h) (λb hb=>hb.imp id (λe=>by omega)) (λb hb=>by
  rcases hb with h | h
  · have:=hm.zlt b h; omega
  · omega) (by subst hw'; rfl) (by subst hw'; rfl) (by subst hw'; rfl) (by omega) (λk hk _=>hold k hk) (λ_ _=>rfl) (λr h=>by cases h)
 intro K Q hK
 refine Qo0 hex (hK _ _ _ θ ⟨?_,g,λ_ _=>rfl,m1,by simp⟩)
 have hll:(bytesE s).length=s.length:=by simp [bytesE]
 have hrows:∀ e∈bytesE s,e.length=1:=by
  intro e he
  obtain ⟨b,_,rfl⟩:=List.mem_map.1 he; rfl
 have hcs:∀ s:List UInt8,Cells (λb=>Z b∨b=w.heap.size) w' th0 (bytesE s).flatten (s.map λb=>Value.int .u8 b.toNat):=by
  intro s
  induction s with
  | nil=>exact .nil _ _ _
  | cons b s ih=>exact Cells.append (Cells.one' (.int _ _ _) rfl rfl) ih
 have:=rep_lst_at (Z:=λb=>Z b∨b=w.heap.size) (w:=w') (θ:=θ) (z:=[.int .u8 0]) (es:=bytesE s) (us:=s.map λb=>Value.int .u8 b.toNat) (b:=w.heap.size) (o:=0) (cap:=grownCap w s.length 0 e) hrows (hcs s) (by rw [hll]; exact grownCap_ge _ _ _ _) (grownCap_le_maxLen _ _ _ _ (by unfold maxLen; omega)) (.inr rfl) (λj v hj=>by
  subst hw'
  have:=World.cell?_alloc_mark w.drew (bytesRow ⟨s.toArray⟩ (grownCap w s.length 0 e)) e ((bytesRow ⟨s.toArray⟩ (grownCap w s.length 0 e)).size,(bytesRow ⟨s.toArray⟩ (grownCap w s.length 0 e)).size+1) (0+j)
  rw [show (w.drew.heap.size) =w.heap.size from rfl] at this
  rw [this,Nat.zero_add]
  have hjl:j < s.length:=by have:=(List.getElem?_eq_some_iff.1 hj).1; simpa using this
  simp only [bytesRow]
  rw [Array.getElem?_append_left (by simpa using hjl)]
  simpa using hj)
 rw [hll] at this
 exact this
theorem calm_idxS {o:Oper} {t:TypeId} {x i:Operand}(ho:o.op= .index t x i)(hu:P.underlying t=some .string) {x' i':A}(hx:compA x=some x')(hi:compA i=some i') {r:Res}(he:bind2 (av σ p x') (av σ p i') idxSR=some r)(hpre:∀ q∈r.pre,q):Calm P Z w θ a o r:=by
 obtain ⟨vx,vi,hvx,hvi,h⟩:=Qd0 he
 have hrx:=av_rep hs hp hx hvx
 have hri:=av_rep hs hp hi hvi
 generalize ex:a.eval x=v1 at hrx
 generalize ei:a.eval i=v2 at hri
 unfold idxSR at h
 split at h<;>try (cases h; done)
 rename_i s k n
 simp only [sI] at h; subst h
 have hb:0≤n∧n < (s.length:Int):=hpre _ (by simp)
 cases hrx; cases hri
 refine ⟨rfl,rfl,by simp,_,?_,.int _ _ _⟩
 have hsz:(ByteArray.mk s.toArray).size=s.length:=rfl
 have hrun:=run_index_string (P:=P) w t ⟨s.toArray⟩ k n hu
 rw [dif_pos (by rw [hsz]; exact hb)] at hrun
 simp only [execOp,ho,Sem.run_bind,ex,ei]
 rw [hrun]
 have hlt:n.toNat < s.length:=by omega
 have e1:(ByteArray.mk s.toArray)[n.toNat]'(by rw [hsz]; omega) =s.getD n.toNat 0:=by
  show s.toArray[n.toNat]'(by simpa using hlt) =_
  simp [List.getD,List.getElem?_eq_getElem hlt]
 simp only [Sem.run_pure,Result.andThen_ok,e1]
omit hs hp in
theorem run_part_val {t:TypeId} {n:Nat}(hn:sizeP P t=some n) {u:TypeDesc}(hu:P.underlying t=some u) {cs:List AV} {vs:List Value}(hc:Cells Z w θ cs vs) {off:Nat} {v:AV}(hv:valOf (aggP P t) n cs off=some v):∃ res,(part t vs.toArray off).run P w= .ok res w∧Rep Z w θ v res:=by
 obtain ⟨us,hl,hus,res,hres,hag⟩:=cells_val hc hv
 refine ⟨res,?_,hres⟩
 rcases hag with ⟨ha,rfl⟩ | ⟨ha,rfl⟩
 · unfold valOf at hv
   rw [ha] at hv
   simp only at hv
   split at hv<;>try (cases hv; done)
   rename_i hle
   have e1:us=(vs.drop off).take n:=by
    apply List.ext_getElem?
    intro j
    by_cases hj:j < n
    · have h1:us[j]? =some us[j]:=List.getElem?_eq_getElem (by omega)
      rw [h1,List.getElem?_take,if_pos hj,List.getElem?_drop,hus j _ h1]
    · rw [List.getElem?_eq_none (by omega),List.getElem?_take,if_neg hj]
   simp [part,Zj0 hu,ha,Qm0 hn,List.extract,e1]
 · have h0:=hus 0 res rfl
   simp only [Nat.add_zero] at h0
   simp [part,Zj0 hu,ha,h0]
theorem calm_fld {o:Oper} {t:TypeId} {x:Operand} {f:Nat}(ho:o.op= .field t x f) {fs:Array Field}(hu:P.underlying t=some (.struct fs)) {fd:Field}(hf:fs[f]? =some fd) {n:Nat}(hn:sizeP P fd.type=some n) {u:TypeDesc}(huf:P.underlying fd.type=some u)
 {x':A} (hc:compA x=some x') {r:Res} (he:bind1 (av σ p x') (fldR fd.offset n (aggP P fd.type)) =some r):Calm P Z w θ a o r:=by
 obtain ⟨y,hy,h⟩:=Qe0 he
 have hr:=av_rep hs hp hc hy
 unfold fldR at h
 split at h<;>try (cases h; done)
 split at h<;>try (cases h; done)
 rename_i v hv
 generalize hvx:a.eval x=vx at hr
 obtain ⟨vs,rfl,hcs⟩:=hr.cells
 obtain ⟨res,hres,hrep⟩:=run_part_val (w:=w) hn huf hcs hv
 exact .q h (v:=res) (by simp [execOp,ho,hvx,Instr.field,run_underlying hu,hf,asAgg,hres]) hrep
theorem calm_idxV {o:Oper} {t e:TypeId} {len:Nat} {x i:Operand}(ho:o.op= .index t x i)(hu:P.underlying t=some (.array len e)) {n:Nat}(hn:sizeP P e=some n) {u:TypeDesc}(hue:P.underlying e=some u)
 {x' i':A} (hx:compA x=some x') (hi:compA i=some i') {r:Res} (he:bind2 (av σ p x') (av σ p i') (idxVR len n (aggP P e)) =some r) (hpre:∀ q∈r.pre,q):Calm P Z w θ a o r:=by
 obtain ⟨y,yi,hy,hyi,h⟩:=Qd0 he
 have hri:=av_rep hs hp hi hyi
 have hr:=av_rep hs hp hx hy
 unfold idxVR at h
 split at h<;>try (cases h; done)
 rename_i cs k j
 split at h<;>try (cases h; done)
 rename_i v hv
 simp only [sI] at h; subst h
 have hb:0≤j∧j < (len:Int):=hpre _ (by simp)
 have hei:a.eval i= .int k j:=by
  generalize a.eval i=v at hri
  cases hri; rfl
 generalize hvx:a.eval x=vx at hr
 obtain ⟨vs,rfl,hcs⟩:=hr.cells
 obtain ⟨res,hres,hrep⟩:=run_part_val (w:=w) hn hue hcs hv
 exact ⟨rfl,rfl,by simp,res,by simp [execOp,ho,hvx,hei,Instr.index,asIntOf,run_underlying hu,hb,Qm0 hn,hres],hrep⟩
theorem calm_shl {o:Oper} {t u:TypeId} {x y:Operand}(ho:o.op= .binOp .shl t x y u) {io:IOp}(hc:compShift true x y=some io) {r:Res}:
 ∃ n x',io= .shl n x'∧(bind1 (av σ p x') (shR true n) =some r→Calm P Z w θ a o r):=by
 unfold compShift at hc
 split at hc<;>try (cases hc; done)
 rename_i k n
 rw [Option.map_eq_some_iff] at hc
 obtain ⟨x',hx,hio⟩:=hc
 refine ⟨n,x',hio.symm,λhe=>?_⟩
 obtain ⟨y,hy,h⟩:=Qe0 he
 have hr:=av_rep hs hp hx hy
 have ho':o.op= .binOp .shl t x (.const (.int k (n:Int))) u:=ho
 have hey:a.eval (.const (.int k (n:Int))) = .int k (n:Int):=rfl
 unfold shR at h
 split at h<;>try (cases h; done)
 rename_i k' n'
 generalize hv:a.eval x=v at hr
 cases hr
 split at h<;>try (cases h; done)
 all_goals try (rename_i hcc _; cases hcc; done)
 rename_i hb
 have hb:n≤k'.bits:=by simpa using hb
 refine .q h (v:= .int k' (k'.wrap (n' * 2 ^ n))) ?_ (.int _ _ _)
 have hn0:¬ ((n:Int) < 0):=by omega
 simp [execOp,ho',hv,hey,eqGuard,binOp,Op.shift,Nat.min_eq_left hb,hn0]
theorem calm_shr {o:Oper} {t u:TypeId} {x y:Operand}(ho:o.op= .binOp .shr t x y u) {io:IOp}(hc:compShift false x y=some io) {r:Res}:
 ∃ n x',io= .shr n x'∧(bind1 (av σ p x') (shR false n) =some r→Calm P Z w θ a o r):=by
 unfold compShift at hc
 split at hc<;>try (cases hc; done)
 rename_i k n
 rw [Option.map_eq_some_iff] at hc
 obtain ⟨x',hx,hio⟩:=hc
 refine ⟨n,x',hio.symm,λhe=>?_⟩
 obtain ⟨y,hy,h⟩:=Qe0 he
 have hr:=av_rep hs hp hx hy
 have ho':o.op= .binOp .shr t x (.const (.int k (n:Int))) u:=ho
 have hey:a.eval (.const (.int k (n:Int))) = .int k (n:Int):=rfl
 unfold shR at h
 split at h<;>try (cases h; done)
 rename_i k' n'
 generalize hv:a.eval x=v at hr
 cases hr
 split at h<;>try (cases h; done)
 all_goals try (rename_i hcc _; cases hcc; done)
 rename_i hb
 have hb:n≤k'.bits:=by simpa using hb
 refine .q h (v:= .int k' (n'.fdiv (2 ^ n))) ?_ (.int _ _ _)
 have hn0:¬ ((n:Int) < 0):=by omega
 simp [execOp,ho',hv,hey,eqGuard,binOp,Op.shift,Nat.min_eq_left hb,hn0]
theorem calm_eqnil (hm:Mem X Z w θ σ.m) {o:Oper} {op:BinOp} {t u e:TypeId} {x y:Operand}(ho:o.op= .binOp op t x y u)(hop:isEq op=true)(hu:P.underlying t=some (.slice e))(hn:isNilC y=true) {x':A}(hx:compA x=some x') {r:Res}
 (he:bind1 (av σ p x') (nilR σ.m (isNeq op)) =some r):Calm P Z w θ a o r:=by
 obtain ⟨z,hz,h⟩:=Qe0 he
 have hr:=av_rep hs hp hx hz
 have hy:a.eval y= .slice none 0 0:=by
  unfold isNilC at hn
  split at hn
  · rfl
  · cases hn
 have hrun:∀ (ad:Option Addr) (n c:Nat),a.eval x= .slice ad n c→(execOp a.eval o).run P w= .ok (.value (.bool (match isNeq op with | true=>!ad.isNone | false=>ad.isNone))) w:=by
  intro ad n c hv
  have hq:=run_equal_slice_nil (P:=P) w t e ad n c hu
  cases op<;>simp only [isEq] at hop<;>try (cases hop; done)
  · simp [execOp,ho,hv,hy,eqGuard,binOp,isNeq,hq]
  · simp [execOp,ho,hv,hy,eqGuard,binOp,isNeq,hq]
 generalize hv:a.eval x=v at hr hrun
 unfold nilR at h
 split at h
 · cases hr
   have:=hrun none 0 0 rfl
   refine .q h this ?_
   cases isNeq op<;>exact .bool _ _
 · rename_i zz es
   split at h<;>try (cases h; done)
   rename_i hneq
   cases hr with
   | lst _ _ _ ad cap f hc hmx hzz hat hmem h1' hh'=>
     have:=hrun ad es.length cap rfl
     rw [hneq] at this
     refine .q h this (.nb _ _ _ λhb=>?_)
     cases es with
     | nil=>rfl
     | cons e0 es=>
       obtain ⟨b,o',rfl,_⟩:=hmem (by simp)
       cases hb
 · rename_i r0 _ _ _
   unfold nilV at h
   split at h<;>try (cases h; done)
   rename_i T zz es hmr
   split at h<;>try (cases h; done)
   rename_i hneq
   simp only [sI] at h; subst h
   cases hr with
   | vw _ _ _ _ _ a' n' c' hθ=>
     obtain ⟨hz0,hrows,xs,hown,_,hcs⟩:=hm.brep r0 _ hmr
     rw [hθ] at hown
     have:=hrun a' n' c' rfl
     rw [hneq] at this
     refine ⟨rfl,rfl,by simp,_,this,.nb _ _ _ λhb=>?_⟩
     rcases hown.2 with ⟨hv,h0⟩ | ⟨g,cap,cur,hv,_⟩
     · have:es= []:=List.eq_nil_of_length_eq_zero h0
       subst this; rfl
     · cases hv; cases hb
 · cases h
theorem ok_iaddrS (hm:Mem X Z w θ σ.m) {o:Oper} {t e:TypeId} {x i:Operand}(ho:o.op= .indexAddr t x i)(hu:P.underlying t=some (.slice e)) {sz:Nat}(hsz:sizeP P e=some sz) {zero:List AV}(hzero:zero.length=sz)
 {x' i':A} (hx:compA x=some x') (hi:compA i=some i') {r:Res} (he:bind2 (av σ p x') (av σ p i') (iaddrSM σ.m zero) =some r) (hpre:∀ q∈r.pre,q):Calm P Z w θ a o r:=by
 obtain ⟨vx,vi,hvx,hvi,h⟩:=Qd0 he
 have hrun:∀ (g off n c:Nat) (k:IntKind) (j:Int),a.eval x= .slice (some ⟨g,off,none⟩) n c→a.eval i= .int k j→0≤j→j < n→(execOp a.eval o).run P w= .ok (.value (.pointer (some ⟨g,off+j.toNat * sz,none⟩))) w:=by
  intro g off n c k j e1 e2 h1 h2
  simp [execOp,ho,e1,e2,Instr.indexAt,asIntOf,run_underlying hu,h1,h2,Qm0 hsz,Qp0]
 unfold iaddrSM at h
 split at h
 · rename_i r0 _ _ _ k n
   have hrx:=av_rep hs hp hx hvx
   have hri:=av_rep hs hp hi hvi
   unfold iasV at h
   split at h<;>try (cases h; done)
   · rename_i T z es hmr
     split at h<;>try (cases h; done)
     rename_i hzz
     have hzz:z.length=zero.length:=by simpa using hzz
     simp only [sI] at h; subst h
     obtain ⟨hb1,hb2⟩:=hpre (0≤n∧n < (es.length:Int)) (by simp)
     obtain ⟨hz0,hrows,xs,hown,_,hcs⟩:=hm.brep r0 _ hmr
     generalize ex:a.eval x=v1 at hrx
     generalize ei:a.eval i=v2 at hri
     cases hri
     cases hrx with
     | vw _ _ _ _ _ a' n' c' hθ=>
       rw [hθ] at hown
       rcases hown.2 with ⟨hv,h0⟩ | ⟨g,o0,cap,cur,hv,_,hnc,hcm,_⟩
       · omega
       · cases hv
         refine ⟨rfl,rfl,?_,_,hrun g o0 _ _ k n ex ei hb1 hb2,?_⟩
         · intro q hq
           simp only [List.mem_singleton] at hq
           subst hq
           unfold maxLen at hcm; omega
         · rw [← Nat.add_zero (n.toNat * sz),← hzero]
           exact .bp _ _ _ _ _ _ _ _ _ hθ
   rename_i T z es hmr
   split at h<;>try (cases h; done)
   rename_i hzz
   have hzz:z.length=zero.length:=by simpa using hzz
   simp only [sI] at h; subst h
   obtain ⟨hb1,hb2⟩:=hpre (0≤n∧n < (es.length:Int)) (by simp)
   obtain ⟨hz0,hrows,xs,hown,_,hcs⟩:=hm.brep r0 _ hmr
   generalize ex:a.eval x=v1 at hrx
   generalize ei:a.eval i=v2 at hri
   cases hri
   cases hrx with
   | vw _ _ _ _ _ a' n' c' hθ=>
     rw [hθ] at hown
     rcases hown.2 with ⟨hv,h0⟩ | ⟨g,cap,cur,hv,_,_,hnc,hcm,_⟩
     · omega
     · cases hv
       refine ⟨rfl,rfl,?_,_,hrun g 0 _ _ k n ex ei hb1 hb2,?_⟩
       · intro q hq
         simp only [List.mem_singleton] at hq
         subst hq
         unfold maxLen at hcm; omega
       · rw [← Nat.add_zero (n.toNat * sz),← hzero]
         exact .bp _ _ _ _ _ _ _ _ _ hθ
 · rename_i r0 sz' lo hi0 k n
   have hrx:=av_rep hs hp hx hvx
   have hri:=av_rep hs hp hi hvi
   unfold iasP at h
   split at h<;>try (cases h; done)
   rename_i T z es hmr
   split at h<;>try (cases h; done)
   rename_i hzz
   simp only [Bool.and_eq_true,beq_iff_eq] at hzz
   obtain ⟨hzz,hzs⟩:=hzz
   simp only [sI] at h; subst h
   obtain ⟨hb1,hb2,_,_⟩:=hpre (0≤n∧n < ((hi0 - lo:Nat):Int)∧lo≤hi0∧hi0≤es.length) (by simp)
   generalize ex:a.eval x=v1 at hrx
   generalize ei:a.eval i=v2 at hri
   cases hri
   cases hrx with
   | sv _ _ _ _ _ a0 n0 c0 a' c' hθ e1 e2 e3 e4 e5=>
     obtain ⟨g,rfl,rfl⟩:=e3 (by omega)
     refine ⟨rfl,rfl,by simp,_,hrun g _ _ _ k n ex ei hb1 hb2,?_⟩
     rw [show lo * sz'+n.toNat * sz=0+((lo+n.toNat) * zero.length+0) by rw [← hzs,hzz,hzero,Nat.add_mul]; omega]
     exact .bp _ _ _ _ _ _ _ _ _ hθ
 · exact calm_iaddrS hs hp ho hu hsz hzero hx hi (by rw [hvx,hvi]; exact h) hpre
end
end Go.Ev
namespace Go.Ev
open Go Go.RowKit
theorem QRow.of_own {w:World} {T:TypeId} {k:Nat} {v:Value} {n:Nat} {xs:List Value}(h:w.ownsRow 0 T k v n xs):QRow w T k v n xs:=by
 refine ⟨h.1,?_⟩
 rcases h.2 with h1 | ⟨g,cap,cur,rfl,_,hg,hnc,hcm,hcs,htake⟩
 · exact .inl h1
 · exact .inr ⟨g,0,cap,cur,rfl,hg,hnc,hcm,by omega,by simpa using htake⟩
theorem bk_q (v:Value) {k:Nat}(h:v.ownBlock=some k) {T:TypeId} {w:World} {size n:Nat} {xs:List Value}(ho:QRow w T size v n xs):bk v=some k:=by
 rcases ho.2 with ⟨rfl,_⟩ | ⟨g,o,cap,cur,rfl,_⟩
 · cases h
 · simp [Value.ownBlock] at h; subst h; rfl
section
variable {P:Program}(w:World)
theorem run_append_roomQ (t ty e:TypeId)(i:TypeInfo)(ht:P.underlying t=some (.slice e))(hi:P.info? e=some i)
 (g o sLen sCap:Nat) (cur:Array Value) (hg:w.heap[g]? =some (.cells cur e (0,0)))
 (a:Addr) (m c:Nat) (news:List Value) (hl:news.length=m * i.size) (hnews:∀ j u,news[j]? =some u→w.cell? (a.add j) =some u) (h1:∀ u∈news,u.oneCell'=true)
 (hroom:sLen+m≤sCap) (hfit:o+sLen * i.size+news.length≤cur.size):
 (Builtin.append_ #[t,t] ty #[.slice (some ⟨g,o,none⟩) sLen sCap,.slice (some a) m c]).run P w =
  .ok (.slice (some ⟨g,o,none⟩) (sLen+m) sCap) (w.setRow g (cur.toList.take (o+sLen * i.size) ++ news ++ cur.toList.drop (o+sLen * i.size+news.length)).toArray):=by
 have hf:=run_firstCells_some (P:=P) w i.size m a m c news hl hnews
 have hst:=run_storeCells_at P g (o+sLen * i.size) e news 0 cur w hg (by simpa using hfit) h1
 simp only [Nat.add_zero] at hst
 simp [Builtin.append_,run_underlying ht,sizeOf,typeInfo,hi,Builtin.lenOf,hroom,hf,Addr.add_lit,hst]
theorem run_append_q (t ty e:TypeId)(i:TypeInfo)(z:Value)(ht:P.underlying t=some (.slice e))(hi:P.info? e=some i)(hz:i.zero=some z)
 (hzs:z.cells.size=i.size) (hsz:0 < i.size)
 (v:Value) (n:Nat) (xs:List Value) (hown:QRow w e i.size v n xs)
 (ad:Option Addr) (m c:Nat) (hm0:m≠0) (had:m≠0→ad.isSome=true) (news:List Value) (hl:news.length=m * i.size) (hnews:∀ a,ad=some a→∀ j u,news[j]? =some u→w.cell? (a.add j) =some u) (h1:∀ u∈news,u.oneCell'=true)
 (h63:n+m≤maxLen) (hbytes:(n+m) * i.bytes≤140737488355328):
 ∃ v' w',(Builtin.append_ #[t,t] ty #[v,.slice ad m c]).run P w= .ok v' w'∧QRow w' e i.size v' (n+m) (xs ++ news)∧w.grownBy w' v.ownBlock∧
   (∃ a' n' c',v'= .slice a' n' c')∧∀ b,bk v'=some b→bk v=some b∨w.heap.size≤b:=by
 obtain ⟨a,rfl⟩:=Option.isSome_iff_exists.1 (had hm0)
 have hnw:=hnews a rfl
 have h63':((n+m:Nat):Int)≤9223372036854775807:=by simp only [maxLen] at h63; omega
 have hlen:(xs ++ news).length=(n+m) * i.size:=by rw [List.length_append,hown.1,hl,Nat.add_mul]
 rcases hown.2 with ⟨rfl,rfl⟩ | ⟨g,o,cap,cur,rfl,hg,hnc,hcm,hcs,htake⟩
 · have hx:xs= []:=List.eq_nil_of_length_eq_zero (by simpa using hown.1)
   subst hx
   obtain ⟨v',w',hr,h2,h3,h4,h5⟩:=run_append_at (P:=P) w t ty e i z ht hi hz hzs hsz (.slice none 0 0) 0 [] (World.ownsRow_nil w 0 e i.size) (some a) m c had news hl hnews h1 h63 hbytes
   exact ⟨v',w',hr,.of_own h2,h3,h4,h5⟩
 · by_cases hroom:n+m≤cap
   · have hmul:(n+m) * i.size≤cap * i.size:=Nat.mul_le_mul_right _ hroom
     rw [Nat.add_mul] at hmul
     have hfit:o+n * i.size+news.length≤cur.size:=by rw [hl]; omega
     have hr:=run_append_roomQ (P:=P) w t ty e i ht hi g o n cap cur hg a m c news hl hnw h1 hroom hfit
     refine ⟨_,_,hr,⟨hlen,.inr ⟨g,o,cap,_,rfl,setRow_heap w g cur _ e _ hg,hroom,hcm,?_,?_⟩⟩,⟨rfl,rfl,rfl,by simp,λk _ hk=>setRow_other w g k _ (λe=>hk (by simp [Value.ownBlock,e]))⟩,⟨_,_,_,rfl⟩,?_⟩
     · simp only [List.size_toArray,List.length_append,List.length_take,List.length_drop,Array.length_toList]
       omega
     · have hcl:cur.toList.length=cur.size:=Array.length_toList
       rw [List.toList_toArray,List.append_assoc,List.drop_append_of_le_length (by simp; omega),← List.append_assoc,List.drop_take,show o+n * i.size - o=n * i.size by omega,htake,← hlen]
       exact List.take_left
     · intro b hb; left; exact hb
   · have holds:∀ j u,xs[j]? =some u→w.cell? ((⟨g,o,none⟩:Addr).add j) =some u:=λj u hj=>by rw [Qp0]; exact hown.cells j u hj
     have hr:=run_append_grow (P:=P) w t ty e i z ht hi hz ⟨g,o,none⟩ n cap xs hown.1 holds a m c news hl hnw (by omega) h63' (growslice_fits (by omega) hbytes)
     have hge:=grownCap_ge w (n+m) cap e
     have hcm':grownCap w (n+m) cap e≤maxLen:=grownCap_le_maxLen w (n+m) cap e h63
     refine ⟨_,_,hr,⟨hlen,.inr ⟨w.heap.size,0,_,_,rfl,heap_alloc_new w.drew _,hge,hcm',?_,?_⟩⟩,⟨rfl,rfl,rfl,by simp,λk hk _=>Zn0 w.drew _ k hk⟩,⟨_,_,_,rfl⟩,?_⟩
     · simp only [Array.size_append,List.size_toArray,size_zeroCells,hzs,hown.1,hl,← Nat.add_mul]
       rw [show n+m+(grownCap w (n+m) cap e - (n+m)) =grownCap w (n+m) cap e by omega]
       omega
     · simp only [Array.toList_append,List.append_assoc,List.drop_zero]
       rw [← List.append_assoc,← hlen]
       exact List.take_left
     · intro b hb; simp [bk] at hb; right; omega
end
section
variable {P:Program} {X:Cx} {Z:Nat→Prop} {w:World} {θ:Nat→Value} {a:Act} {σ:St} {p:List (Nat×Bool)}
theorem isQ_some {m:Nat→Option Blk} {x:AV} {r:Nat}(h:isQ m x=some r):∃ b c d T z es,x= .vw r b c d∧m r=some (.qb T z es):=by
 unfold isQ at h
 split at h<;>try (cases h; done)
 split at h<;>try (cases h; done)
 rename_i hr
 simp only [sI] at h; subst h
 exact ⟨_,_,_,_,_,_,rfl,hr⟩
theorem Mem.again {m:Nat→Option Blk}(hm:Mem X Z w θ m) {r:Nat} {blk0 blk:Blk} {v v':Value} {w':World}(hr:m r=some blk0)(h64:64≤r)(hθ:θ r=v)(hnZ0:∀ b,bk v=some b→¬ Z b)
 (hgb:w.grownBy w' v.ownBlock) (hbv:∀ k,v.ownBlock=some k→bk v=some k) (hblk:∀ b,bk v'=some b→bk v=some b∨w.heap.size≤b)
 (hB:Goes Z w Z w'→BRep Z w' (λk=>if k=r then v' else θ k) r (killB r blk)):
 Goes Z w Z w'∧Mem X Z w' (λk=>if k=r then v' else θ k) (updM (killM r m) r (some (killB r blk))):=by
 obtain ⟨q1,q2⟩:=hm.stepW (w':=w') (m':=updM m r none) (some r) (λ_ h=>h) (λ_ h=> .inl h) (λb hb'=>Nat.lt_of_lt_of_le (hm.zlt b hb') hgb.size) hgb.os hgb.tape hgb.output hgb.size
  (λk hk hne=>hgb.block k hk (by
   intro hk'
   exact hne r rfl (by rw [hθ]; exact hbv k hk'.symm)))
  (λk hk=>by have:k≠r:=λe=>hk (by rw [e]); simp [updM,this])
  (λk hk=>by
   simp only [sI] at hk; subst hk
   exact ⟨by rw [hr]; rfl,λblk hblk=>by simp [updM] at hblk⟩)
 refine ⟨q2,?_⟩
 have hput:=q1.put1 r v' blk h64 (hB q2) (by
  intro r' blk' hne hr' b hb' hb2
  have hr0:m r'=some blk':=by simpa [updM,hne] using hr'
  rcases hblk b hb' with h | h
  · exact hne (hm.disj r' r b (by rw [hr0]; rfl) (by rw [hr]; rfl) hb2 (by rw [hθ]; exact h))
  · have:=hm.lt hr0 hb2; omega) (by
  intro b hb'
  rcases hblk b hb' with h | h
  · rcases hm.own r b (by rw [hr]; rfl) (by rw [hθ]; exact h) with h | h
    · exact h
    · omega
  · have:=hm.frame.size; exact .inl (by omega))
 have heq:updM (killM r (updM m r none)) r (some (killB r blk)) =updM (killM r m) r (some (killB r blk)):=by
  funext k
  simp only [updM,killM]
  by_cases hk:k=r<;>simp [hk]
 rw [heq] at hput
 exact hput
theorem appQ_out {m:Nat→Option Blk}(hm:Mem X Z w θ m) {d:Nat} {t ty e:TypeId} {i:TypeInfo} {zv:Value}(ht:P.underlying t=some (.slice e))(hi:P.info? e=some i)(hz:i.zero=some zv)
 (hzs:zv.cells.size=i.size) (hsz:0 < i.size) {z:List AV} (hzl:z.length=i.size) {r0 b0 c0 d0:Nat} {y:AV} {vx vy:Value} (hx:Rep Z w θ (.vw r0 b0 c0 d0) vx) (hy:Rep Z w θ y vy) {r:Res} (he:appQ e i.bytes z r0 (m r0) (ysOf m z.length y) =some r) (hpre:∀ q∈r.pre,q):
 ∃ v' w' θ',(Builtin.append_ #[t,t] ty #[vx,vy]).run P w= .ok v' w'∧Out X Z w θ m d r v' Z w' θ':=by
 unfold appQ at he
 split at he<;>try (cases he; done)
 rename_i t1 z' es ys t2 hr0 hys
 split at he<;>try (cases he; done)
 rename_i hc
 simp only [decide_eq_true_eq] at hc
 obtain ⟨rfl,hzz,h64⟩:=hc
 simp only [sI] at he; subst he
 have hne:=hpre (0 < ys.length) (by simp)
 have h63:=hpre (es.length+ys.length≤9223372036854775807) (by simp)
 have hby:=hpre ((es.length+ys.length) * i.bytes≤140737488355328) (by simp)
 obtain ⟨hz0,hrows,xs,hown,hnZ,hcx⟩:=hm.brep r0 _ hr0
 obtain ⟨hrows2,ad,c,news,rfl,had,hl,hnews,hcn⟩:=ys_spec hm (by omega) hy hys
 have hzl':z'.length=i.size:=by omega
 have hθ:θ r0=vx:=by cases hx with | vw _ _ _ _ _ _ _ _ h=>exact h
 rw [hzl',hθ] at hown
 rw [hθ] at hnZ
 rw [hzl] at hl
 have hone:∀ u∈news,u.oneCell'=true:=hcn.one
 obtain ⟨v',w',hr,hown',hgb,⟨a',n',c',hv'⟩,hblk⟩:=run_append_q (P:=P) w t ty t1 i zv ht hi hz hzs hsz vx es.length xs hown ad ys.length c (by omega) had news hl hnews hone (by simp only [maxLen]; omega) hby
 obtain ⟨hg,hmem⟩:=hm.again (blk:= .qb t1 z' (es ++ ys)) (v':=v') hr0 h64 hθ hnZ hgb (λk hk=>bk_q vx hk hown) hblk (λhg=>by
  refine ⟨hz0,?_,xs ++ news,?_,?_,?_⟩
  · intro q hq
    rcases List.mem_append.1 hq with hq | hq
    · exact hrows q hq
    · rw [hzz]; exact hrows2 q hq
  · simp only [if_true,List.length_append,hzl']
    exact hown'
  · intro b hb' hzb
    simp only [if_true] at hb'
    rcases hblk b hb' with h | h
    · exact hnZ b h hzb
    · have:=hm.zlt b hzb; omega
  · rw [List.flatten_append]
    exact (hcx.append hcn).step hg)
 refine ⟨v',w',λk=>if k=r0 then v' else θ k,hr,?_,hg,λk hk=>?_,hmem,by simp⟩
 · subst hv'
   exact .vw _ _ _ _ _ _ _ _ (by simp)
 · have:=hk _ _ rfl
   simp [this]
theorem QRow.drop {T k n c l:Nat} {a:Option Addr} {xs:List Value}(h:QRow w T k (.slice a n c) n xs)(hl:l≤n):
 QRow w T k (.slice (if c=l then a else a.map (·.add (l * k))) (n - l) (c - l)) (n - l) (xs.drop (l * k)):=by
 have hlen:(xs.drop (l * k)).length=(n - l) * k:=by rw [List.length_drop,h.1,Nat.sub_mul]
 refine ⟨hlen,?_⟩
 rcases h.2 with ⟨h1,h2⟩ | ⟨g,o,cap,cur,h1,hg,hnc,hcm,hcs,htake⟩
 · cases h1
   have:l=0:=by omega
   subst this
   left; simp
 · cases h1
   by_cases hcl:c=l
   · have:n=l:=by omega
     subst this
     subst hcl
     right
     refine ⟨g,o,0,cur,by simp,hg,by omega,by unfold maxLen; omega,?_,?_⟩
     · simp only [Nat.zero_mul]; omega
     · simp only [Nat.sub_self,Nat.zero_mul,List.take_zero]
       exact (List.eq_nil_of_length_eq_zero (by rw [hlen]; simp)).symm
   · right
     have hm1:l * k≤c * k:=Nat.mul_le_mul_right _ (by omega)
     refine ⟨g,o+l * k,c - l,cur,?_,hg,by omega,by unfold maxLen at *; omega,?_,?_⟩
     · rw [if_neg hcl]; simp [Qp0]
     · rw [Nat.sub_mul]; omega
     · rw [← htake,List.drop_take,List.drop_drop,Nat.sub_mul]
variable (hs:∀ k,SRep Z w θ a.tmps (σ.s k) (a.tmps.getD k undef))(hp:pathT a.tmps p)
include hs hp
theorem ok_sliceQ (hm:Mem X Z w θ σ.m) {d:Nat} {o:Oper} {t e:TypeId} {x:Operand} {lo hi:Option Operand}(ho:o.op= .slice t x lo hi none)(hu:P.underlying t=some (.slice e)) {sz:Nat}(hsz:sizeP P e=some sz)
 {x':A} {lo' hi':Option A} (hx:compA x=some x') (hl:compO lo=some lo') (hh:compO hi=some hi') {r:Res} (he:sliceQ σ.m sz (av σ p x') (boundA σ p lo') (boundA σ p hi') =some r) (hpre:∀ q∈r.pre,q):OpOK P X Z w θ σ.m a o d r:=by
 unfold sliceQ at he
 split at he<;>try (cases he; done)
 rename_i vx hvx
 split at he
 · rename_i r0 hq
   obtain ⟨b0,c0,d0,T,z,es,rfl,hr0⟩:=isQ_some hq
   rw [hr0] at he
   unfold slQ at he
   split at he<;>try (cases he; done)
   rename_i vl t1 z1 es1 hvl hvh hb
   simp only [sI,Blk.qb.injEq] at hb
   obtain ⟨rfl,rfl,rfl⟩:=hb
   split at he<;>try (cases he; done)
   rename_i l h1 h2
   simp only [Bool.and_eq_true,beq_iff_eq,decide_eq_true_eq] at h2
   obtain ⟨h2,h64⟩:=h2
   simp only [sI] at he; subst he
   obtain ⟨hb1,hb2⟩:=hpre (0≤l∧l≤es.length) (by simp)
   have hrx:=av_rep hs hp hx hvx
   obtain ⟨hz0,hrows,xs,hown,hnZ,hcx⟩:=hm.brep r0 _ hr0
   generalize hv:a.eval x=v at hrx
   cases hrx with
   | vw _ _ _ _ _ ad n' cap hθ=>
     rw [hθ] at hown hnZ
     have hn:n'=es.length∧n'≤cap:=by
      rcases hown.2 with ⟨h3,h4⟩ | ⟨g,o0,cap',cur,h3,_,h5,_⟩
      · cases h3; omega
      · cases h3; exact ⟨rfl,h5⟩
     obtain ⟨rfl,hcap⟩:=hn
     have hrun:=run_slice_opt (P:=P) (w:=w) hu hsz ad es.length cap (bound_lo hs hp hl hvl h1) (bound_hi hs hp hh hvh (n:=es.length) (l:=(es.length:Int)) rfl) hb1 hb2 (by omega) hcap
     have hrun2:(execOp a.eval o).run P w= .ok (.value (.slice (if cap=l.toNat then ad else ad.map (·.add (l.toNat * sz))) (es.length - l.toNat) (cap - l.toNat))) w:=by
      simp only [execOp,ho,Sem.run_bind,hv]
      simp only [Option.map_none]
      rw [hrun]
      simp
     have hq:=hown.drop (l:=l.toNat) (by omega)
     rw [h2] at hq
     obtain ⟨hg,hmem⟩:=hm.again (blk:= .qb T z (es.drop l.toNat)) (v':= .slice (if cap=l.toNat then ad else ad.map (·.add (l.toNat * sz))) (es.length - l.toNat) (cap - l.toNat)) (w':=w) hr0 h64 hθ hnZ ⟨rfl,rfl,rfl,Nat.le_refl _,λ_ _ _=>rfl⟩ (λk hk=>bk_q _ hk hown) (λb hb=>by
      left
      rcases hown.2 with ⟨h3,h4⟩ | ⟨g,o0,cap',cur,h3,_,h5,_⟩
      · simp only [Value.slice.injEq] at h3
        obtain ⟨rfl,_,rfl⟩:=h3
        have:l.toNat=0:=by omega
        simp [this,bk] at hb
      · cases h3
        split at hb
        · exact hb
        · simpa [bk,Qp0] using hb) (λhg=>by
      refine ⟨hz0,λq hq=>hrows q (List.mem_of_mem_drop hq),xs.drop (l.toNat * z.length),?_,?_,?_⟩
      · simp only [if_true,List.length_drop]
        rw [h2]; exact hq
      · intro b hb
        simp only [if_true] at hb
        refine hnZ b ?_
        rcases hown.2 with ⟨h3,h4⟩ | ⟨g,o0,cap',cur,h3,_,h5,_⟩
        · simp only [Value.slice.injEq] at h3
          obtain ⟨rfl,_,rfl⟩:=h3
          have:l.toNat=0:=by omega
          simp [this,bk] at hb
        · cases h3
          split at hb
          · exact hb
          · simpa [bk,Qp0] using hb
      · rw [flat_dropk hrows]
        exact hcx.drop _)
     intro K Q hK
     refine Qo0 hrun2 (hK _ Z w (λk=>if k=r0 then _ else θ k) ⟨.vw _ _ _ _ _ _ _ _ (by simp),hg,λk hk=>?_,hmem,by simp⟩)
     have:=hk _ _ rfl
     simp [this]
 · have he':sliceO σ.m sz (av σ p x') (boundA σ p lo') (boundA σ p hi') =some r:=by rw [hvx]; exact he
   exact .of_calm (ok_slice hs hp hm ho hu hsz hx hl hh he' hpre) hm
end
end Go.Ev
namespace Go.Ev
open Go Go.RowKit
section
variable {P:Program} {w:World}
theorem keyN_spec {kt:TypeId} {n:Nat}(h:keyN P kt=some n):
 (n=0∧P.underlying kt=some (.int .u8))∨(n=2∧∃ e,P.underlying kt=some (.array 2 e)∧P.underlying e=some (.int .i64)∧shapeOf P 60 kt=some [0,0]∧sizeP P e=some 1):=by
 unfold keyN at h
 split at h
 · simp only [sI] at h; subst h
   exact .inl ⟨rfl,by assumption⟩
 · split at h
   · simp only [sI] at h; subst h
     exact .inr ⟨rfl,_,by assumption,by assumption,by assumption,by assumption⟩
   · cases h
 · cases h
theorem mapN_spec {t:TypeId} {n:Nat}(h:mapN P t=some n):∃ kt et,P.underlying t=some (.map kt et)∧(P.info? et).bind (·.zero) =some (.bool false)∧keyN P kt=some n:=by
 unfold mapN at h
 split at h<;>try (cases h; done)
 split at h<;>try (cases h; done)
 exact ⟨_,_,by assumption,by assumption,h⟩
theorem run_equal2 {kt e:TypeId}(hk:P.underlying kt=some (.array 2 e))(hs:shapeOf P 60 kt=some [0,0])(a b c d:Int):
 (Op.equal kt (keyV 2 [a,b]) (keyV 2 [c,d])).run P w= .ok (decide ([a,b] = [c,d])) w:=by
 have mk:∀ x y:Int,Cells (λ_=>False) w th0 [.int .i64 x,.int .i64 y] [.int .i64 x,.int .i64 y]:=λx y=>
  (Cells.one' (.int _ _ _) rfl rfl).append (Cells.one' (.int _ _ _) rfl rfl)
 have:=((shape_both P 60).1 kt [0,0] hs Op.maxDepth (by decide) (λ_=>False) w th0 _ _ _ _ (decide (a=c) && (decide (b=d) && true)) (mk a b) (mk c d) (by simp [eqCells])).1 (by simp [aggP,hk])
 simp only [Op.equal,keyV,List.map_cons,List.map_nil]
 rw [this]
 congr 1
 simp
theorem run_check2n {kt e:TypeId}(hk:P.underlying kt=some (.array 2 e))(he:P.underlying e=some (.int .i64))(hsz:sizeP P e=some 1)(em:Bool)(a b:Int)(n:Nat):
 (Instr.checkKey em (n+2) kt (keyV 2 [a,b])).run P w= .ok () w:=by
 have h1:∀ v:Int,(Instr.checkKey em (n+1) e (.int .i64 v)).run P w= .ok () w:=λv=>by
  rw [Instr.checkKey]
  simp [run_underlying he]
 have h2:∀ (i:Nat) (v:Value),(#[Value.int .i64 a,.int .i64 b])[i]? =some v→(part e #[Value.int .i64 a,.int .i64 b] i).run P w= .ok v w:=λi v h=>by
  simp [part,isAgg,run_underlying he,h]
 have p0:=h2 0 (.int .i64 a) rfl
 have p1:=h2 1 (.int .i64 b) rfl
 rw [Instr.checkKey]
 simp only [keyV,List.map_cons,List.map_nil,Sem.run_bind,run_underlying hk,Result.andThen_ok]
 simp [Std.Legacy.Range.forIn_eq_forIn_range',Std.Legacy.Range.size,List.range',Qm0 hsz,p0,p1,h1,Result.andThen]
theorem run_check2 {kt e:TypeId}(hk:P.underlying kt=some (.array 2 e))(he:P.underlying e=some (.int .i64))(hsz:sizeP P e=some 1)(em:Bool)(a b:Int):
 (Instr.checkKey em 10000 kt (keyV 2 [a,b])).run P w= .ok () w:=run_check2n hk he hsz em a b 9998
def KE (n:Nat)(l:List (List Int))(E:List MapEntry):Prop:=E.map (λe=>(e.key,e.val)) =l.map (λk=>(keyV n k,Value.bool true))
theorem find0 (a:Int):∀ (l:List (List Int))(E:List MapEntry)(i:Nat),KE 0 l E→(∀ k∈l,k.length=1)→
 ([a]∉l→Instr.findNow (.int .u8) (.int .u8 a) E i=some none)∧([a]∈l→∃ j,Instr.findNow (.int .u8) (.int .u8 a) E i=some (some (j,.bool true)))
 | [],[],i,_,_=>⟨λ_=>rfl,λh=>by simp at h⟩
 | [],e::E,i,h,_=>by simp [KE] at h
 | p::es,[],i,h,_=>by simp [KE] at h
 | k ::l,e::E,i,h,hl=>by
   simp only [KE,List.map_cons,List.cons.injEq,Prod.mk.injEq] at h
   obtain ⟨⟨h1,h2⟩,h3⟩:=h
   obtain ⟨r1,r2⟩:=find0 a l E (i+1) h3 (λk hk=>hl k (by simp [hk]))
   obtain ⟨b,rfl⟩:∃ b,k= [b]:=by
    have:=hl k (by simp)
    match k,this with
    | [b],_=>exact ⟨b,rfl⟩
   simp only [keyV] at h1
   by_cases hk:a=b
   · subst hk
     refine ⟨λhn=>absurd (by simp) hn,λ_=>⟨i,?_⟩⟩
     simp [Instr.findNow,Instr.sameNow,h1,h2]
   · have hnk:(a == b) =false:=by simpa using hk
     refine ⟨λhn=>?_,λhn=>?_⟩
     · simp only [Instr.findNow,Instr.sameNow,h1,hnk,if_true]
       exact r1 (λhm=>hn (by simp [hm]))
     · simp only [List.mem_cons] at hn
       obtain ⟨j,hj⟩:=r2 (hn.resolve_left (by simpa using hk))
       exact ⟨j,by simp only [Instr.findNow,Instr.sameNow,h1,hnk,hj,if_true]⟩
theorem find2 {kt e0:TypeId}(hk:P.underlying kt=some (.array 2 e0))(hs:shapeOf P 60 kt=some [0,0])(a b:Int):∀ (l:List (List Int))(E:List MapEntry)(i:Nat),KE 2 l E→(∀ k∈l,k.length=2)→
 ([a,b]∉l→(Instr.findAsking kt (keyV 2 [a,b]) E i).run P w= .ok none w)∧([a,b]∈l→∃ j,(Instr.findAsking kt (keyV 2 [a,b]) E i).run P w= .ok (some (j,.bool true)) w)
 | [],[],i,_,_=>⟨λ_=>rfl,λh=>by simp at h⟩
 | [],e::E,i,h,_=>by simp [KE] at h
 | p::es,[],i,h,_=>by simp [KE] at h
 | k ::l,e::E,i,h,hl=>by
   simp only [KE,List.map_cons,List.cons.injEq,Prod.mk.injEq] at h
   obtain ⟨⟨h1,h2⟩,h3⟩:=h
   obtain ⟨r1,r2⟩:=find2 hk hs a b l E (i+1) h3 (λk hk=>hl k (by simp [hk]))
   obtain ⟨c,d,rfl⟩:∃ c d,k= [c,d]:=by
    have:=hl k (by simp)
    match k,this with
    | [c,d],_=>exact ⟨c,d,rfl⟩
   have heq:=run_equal2 (P:=P) (w:=w) hk hs a b c d
   by_cases hkk:[a,b] = [c,d]
   · rw [decide_eq_true hkk] at heq
     refine ⟨λhn=>absurd (by rw [hkk]; simp) hn,λ_=>⟨i,?_⟩⟩
     simp only [Instr.findAsking,Sem.run_bind,h1,heq,Result.andThen_ok,if_true,Sem.run_pure,h2]
   · rw [decide_eq_false hkk] at heq
     refine ⟨λhn=>?_,λhn=>?_⟩
     · simp only [Instr.findAsking,Sem.run_bind,h1,heq,Result.andThen_ok,Bool.false_eq_true,if_false]
       exact r1 (λhm=>hn (by simp only [List.mem_cons]; exact .inr hm))
     · simp only [List.mem_cons] at hn
       obtain ⟨j,hj⟩:=r2 (hn.resolve_left hkk)
       exact ⟨j,by simp only [Instr.findAsking,Sem.run_bind,h1,heq,Result.andThen_ok,Bool.false_eq_true,if_false]; exact hj⟩
theorem run_find {kt:TypeId} {n:Nat}(hk:keyN P kt=some n) {x:AV} {k:List Int}(hx:keyA n x=some k) {ks:List (List Int)} {E:List MapEntry}(h:KeysOf n ks E):
 (∀ em,(Instr.checkKey em 10000 kt (keyV n k)).run P w= .ok () w)∧k.length=(if n=0 then 1 else n)∧(k∉ks→(Instr.findKey kt (keyV n k) E).run P w= .ok none w)∧(k∈ks→∃ j,(Instr.findKey kt (keyV n k) E).run P w= .ok (some (j,.bool true)) w):=by
 rcases keyN_spec hk with ⟨rfl,hu⟩ | ⟨rfl,e,hu,he,hs,hsz⟩
 · unfold keyA at hx
   split at hx<;>(try (cases hx; done))<;>rename_i e0<;>(try (cases e0; done))
   simp only [sI] at hx; subst hx
   rename_i a
   obtain ⟨h1,h2⟩:=find0 a ks.reverse E 0 h.1 (λk hk=>by simpa using h.2 k (by simpa using hk))
   refine ⟨λem=>MapKept.run_checkKey (k:= .int .u8 a) hu (by simp [MapKept.IsKey]) em 9999,rfl,λhn=>MapKept.run_findKey hu (h1 (by simpa using hn)),λhn=>?_⟩
   obtain ⟨j,hj⟩:=h2 (by simpa using hn)
   exact ⟨j,MapKept.run_findKey hu hj⟩
 · unfold keyA at hx
   split at hx<;>(try (cases hx; done))<;>rename_i e0<;>(try (cases e0; done))
   simp only [sI] at hx; subst hx
   rename_i a b
   obtain ⟨h1,h2⟩:=find2 (P:=P) (w:=w) hu hs a b ks.reverse E 0 h.1 (λk hk=>by simpa using h.2 k (by simpa using hk))
   have hfk:=run_findKey_eq (P:=P) w (k:=kt) (by rw [hu]) (keyV 2 [a,b]) E
   refine ⟨λem=>run_check2 hu he hsz em a b,rfl,λhn=>?_,λhn=>?_⟩
   · rw [hfk]; exact h1 (by simpa using hn)
   · obtain ⟨j,hj⟩:=h2 (by simpa using hn)
     exact ⟨j,by rw [hfk]; exact hj⟩
end
section
variable {P:Program} {X:Cx} {Z:Nat→Prop} {w:World} {θ:Nat→Value} {a:Act} {σ:St} {p:List (Nat×Bool)}
theorem keyA_val {n:Nat} {x:AV} {k:List Int}(hx:keyA n x=some k) {v:Value}(h:Rep Z w θ x v):v=keyV n k:=by
 unfold keyA at hx
 split at hx<;>try (cases hx; done)
 · simp only [sI] at hx; subst hx
   cases h; rfl
 · simp only [sI] at hx; subst hx
   obtain ⟨vs,rfl,hc⟩:=h.cells
   have hl:=hc.len
   match vs,hl with
   | [u1,u2],_=>
     have r1:=hc.rep 0 _ u1 rfl rfl
     have r2:=hc.rep 1 _ u2 rfl rfl
     cases r1; cases r2; rfl
theorem ok_newX {o:Oper} {d:Nat} {m:Nat→Option Blk}(hm:Mem X Z w θ m) {v:Value} {blk:Blk} {w':World} {pre:List Prop}(hk:killB (64 * d+64) blk=blk)(h0:v≠ .nilIface)(h1:v.oneCell'=true)
 (hb:∀ b,bk v=some b→w.heap.size≤b) (hg:w.grownBy w' none) (hB:∀ θ',Goes Z w Z w'→θ' (64 * d+64) =v→BRep Z w' θ' (64 * d+64) blk)
 (hrun:(execOp a.eval o).run P w= .ok (.value v) w'):OpOK P X Z w θ m a o d ⟨pre,[],.ap (64 * d+64) 0 0 0,[],some (64 * d+64,blk),[]⟩:=by
 intro K Q hK
 refine Qo0 hrun (hK _ Z w' (λk=>if k=64 * d+64 then v else θ k) ?_)
 obtain ⟨q1,q2⟩:=hm.stepW (w':=w') (m':=m) none (λ_ h=>h) (λ_ h=> .inl h) (λb hb'=>Nat.lt_of_lt_of_le (hm.zlt b hb') hg.size) hg.os hg.tape hg.output hg.size (λk hk _=>hg.block k hk (by simp)) (λ_ _=>rfl) (λr h=>by cases h)
 have hput:=q1.put1 (64 * d+64) v blk (by omega) (by rw [hk]; exact hB _ q2 (by simp)) (by
  intro r' blk' hne hr' b hb' hb2
  have:=hb b hb'
  have:=hm.lt hr' hb2
  omega) (λb hb'=>by have:=hb b hb'; have:=hm.frame.size; exact .inl (by omega))
 exact ⟨.ap _ _ _ _ _ _ (by simp) h0 h1,q2,λk hk=>by have:=hk _ _ rfl; simp [this],hput,by simp⟩
theorem ok_mkmap {o:Oper} {d:Nat} {m:Nat→Option Blk}(hm:Mem X Z w θ m) {t:TypeId}(ho:o.op= .makeMap t none)(n:Nat):OpOK P X Z w θ m a o d ⟨[],[],.ap (64 * d+64) 0 0 0,[],some (64 * d+64,.ms n []),[]⟩:=by
 refine ok_newX (v:= .map (some w.heap.size)) (w':=w.alloc (.map #[] 0)) hm rfl (by simp) rfl (λb hb=>?_) ⟨rfl,rfl,rfl,by simp,λk hk _=>Zn0 w _ k hk⟩ (λθ' hg hθ=>?_) ?_
 · simp [bk] at hb; omega
 · exact ⟨w.heap.size,#[],0,hθ,heap_alloc_new w _,λhz=>absurd (hm.zlt _ hz) (Nat.lt_irrefl _),by simp [KeysOf]⟩
 · simp [execOp,ho,run_makeMap_plain]
theorem Out.tch {m:Nat→Option Blk} {d:Nat} {r r':Res}(h1:r'.val=r.val)(h2:r'.post=r.post)(h3:r'.ups=r.ups)(h4:r'.new=r.new) {v:Value} {Z':Nat→Prop} {w':World} {θ':Nat→Value}(h:Out X Z w θ m d r v Z' w' θ'):Out X Z w θ m d r' v Z' w' θ':=by
 refine ⟨by rw [h1]; exact h.val,h.goes,by rw [h4]; exact h.th,?_,by rw [h2]; exact h.post⟩
 have:=h.mem
 unfold newM at this ⊢
 rw [h3,h4]
 exact this
variable (hs:∀ k,SRep Z w θ a.tmps (σ.s k) (a.tmps.getD k undef))(hp:pathT a.tmps p)
include hs hp
theorem ok_mkclo {o:Oper} {d f:Nat}(hm:Mem X Z w θ σ.m) {x:Operand} {fi ca:Array Operand}(ho:o.op= .makeFunc (.func f) fi ca)(h1:fi.toList= [])(h2:ca.toList= [x]) {x':A}(hx:compA x=some x') {r:Res}
 (he:bind1 (av σ p x') (cloR f d) =some r):OpOK P X Z w θ σ.m a o d r:=by
 obtain ⟨y,hy,h⟩:=Qe0 he
 have hr:=av_rep hs hp hx hy
 unfold cloR at h
 split at h<;>try (cases h; done)
 rename_i z es i off
 simp only [sI] at h; subst h
 refine ok_newX (v:= .func (.func f) #[] #[a.eval x]) (w':=w) hm rfl (by simp) rfl (λb hb=>by cases hb) ⟨rfl,rfl,rfl,Nat.le_refl _,λ_ _ _=>rfl⟩ (λθ' hg hθ=>?_) ?_
 · exact ⟨a.eval x,hθ,hr.th_clean0 rfl th0⟩
 · have e1:fi= #[]:=by apply Array.ext'; simpa using h1
   have e2:ca= #[x]:=by apply Array.ext'; simpa using h2
   simp [execOp,ho,e1,e2,Instr.makeFunc]
theorem ok_mlook {o:Oper}(hm:Mem X Z w θ σ.m) {t:TypeId} {n:Nat} {x i:Operand}(ho:o.op= .lookup t x i false)(hn:mapN P t=some n) {x' i':A}(hx:compA x=some x')(hi:compA i=some i') {r:Res}
 (he:bind2 (av σ p x') (av σ p i') (lookR σ.m n) =some r):Calm P Z w θ a o r:=by
 obtain ⟨vx,vi,hvx,hvi,h⟩:=Qd0 he
 have hrx:=av_rep hs hp hx hvx
 have hri:=av_rep hs hp hi hvi
 unfold lookR at h
 split at h<;>try (cases h; done)
 rename_i r0 _ _ _
 unfold lookM1 at h
 split at h<;>try (cases h; done)
 rename_i n' ks hr0
 split at h<;>try (cases h; done)
 rename_i k hnn hka
 have hnn:n'=n:=by simpa using hnn
 subst hnn
 simp only [sI] at h; subst h
 obtain ⟨b,E,clock,hθ,hheap,hnZ,hK⟩:=hm.brep r0 _ hr0
 obtain ⟨kt,et,hu,hz,hkn⟩:=mapN_spec hn
 have hv:a.eval x= .map (some b):=by
  generalize a.eval x=v at hrx
  cases hrx with
  | ap _ _ _ _ _ _ h _ _=>rw [← h,hθ]
 have hk:=keyA_val hka hri
 obtain ⟨hc,_,f1,f2⟩:=run_find (P:=P) (w:=w) hkn hka hK
 have hz':(zeroValue et).run P w= .ok (.bool false) w:=by
  obtain ⟨i,hi,hz⟩:=Option.bind_eq_some_iff.1 hz
  simp [zeroValue,run_typeInfo w hi,hz]
 refine ⟨rfl,rfl,by simp,.bool (decide (k∈ks)),?_,.bool _ _⟩
 by_cases hmem:k∈ks
 · obtain ⟨j,hj⟩:=f2 hmem
   simp [execOp,ho,hv,hk,Instr.lookup,run_underlying hu,MapKept.run_getObj_map hheap,hc,hj,Result.andThen,hmem]
 · simp [execOp,ho,hv,hk,Instr.lookup,run_underlying hu,MapKept.run_getObj_map hheap,hc,f1 hmem,hz',Result.andThen,hmem]
theorem ok_mput {o:Oper} {d:Nat}(hm:Mem X Z w θ σ.m) {t:TypeId} {n:Nat} {x i v:Operand}(ho:o.op= .mapUpdate t x i v)(hn:mapN P t=some n)(hvt:isTrueC v=true) {x' i':A}(hx:compA x=some x')(hi:compA i=some i') {r:Res}
 (he:bind2 (av σ p x') (av σ p i') (putR σ.m n) =some r) (hpre:∀ q∈r.pre,q):OpOK P X Z w θ σ.m a o d r:=by
 obtain ⟨vx,vi,hvx,hvi,h⟩:=Qd0 he
 have hrx:=av_rep hs hp hx hvx
 have hri:=av_rep hs hp hi hvi
 unfold putR at h
 split at h<;>try (cases h; done)
 rename_i r0 _ _ _
 unfold putM1 at h
 split at h<;>try (cases h; done)
 rename_i n' ks hr0
 split at h<;>try (cases h; done)
 rename_i k hnn hka
 have hnn:n'=n:=by simpa using hnn
 subst hnn
 simp only [sI] at h; subst h
 have hmem:=hpre (k∉ks) (by simp)
 obtain ⟨b,E,clock,hθ,hheap,hnZ,hK⟩:=hm.brep r0 _ hr0
 obtain ⟨kt,et,hu,hz,hkn⟩:=mapN_spec hn
 have hv:a.eval x= .map (some b):=by
  generalize a.eval x=v at hrx
  cases hrx with
  | ap _ _ _ _ _ _ h _ _=>rw [← h,hθ]
 have hk:=keyA_val hka hri
 obtain ⟨hc,hlen,f1,f2⟩:=run_find (P:=P) (w:=w) hkn hka hK
 have hvv:a.eval v= .bool true:=by
  unfold isTrueC at hvt
  split at hvt
  · rfl
  · cases hvt
 have hrun:(execOp a.eval o).run P w= .ok .skip {w with heap:=w.heap.setIfInBounds b (.map (E.push {key:=keyV n' k,val:= .bool true,born:=clock}) (clock+1))}:=by
  simp [execOp,ho,hv,hk,hvv,Instr.mapUpdate,run_underlying hu,MapKept.run_getObj_map hheap,hc,f1 hmem,MapKept.run_setObj_map _ hheap,Result.andThen]
 have hlt:=Qn0 hheap
 intro K Q hK'
 refine wp_skip_op hrun (hK' _ Z _ θ ?_)
 have hst:=hm.stepW (w':={w with heap:=w.heap.setIfInBounds b (.map (E.push {key:=keyV n' k,val:= .bool true,born:=clock}) (clock+1))}) (m':=updL σ.m [(r0,.ms n' (k::ks))]) (some r0) (λ_ h=>h) (λ_ h=> .inl h)
  (λb hb=>by simpa using hm.zlt b hb) rfl rfl rfl (by simp) (λj hj hne=>by
   have hjb:b≠j:=by
    intro e; subst e; exact hne r0 rfl (by rw [hθ]; rfl)
   simp only
   rw [Array.getElem?_setIfInBounds,if_neg hjb]) (λr' hr'=>by
   have:r'≠r0:=λe=>hr' (by rw [e])
   simp [updL,updM,this]) (λr' hr'=>by
   simp only [sI] at hr'; subst hr'
   refine ⟨by simp [hr0],λblk hblk=>?_⟩
   simp [updL,updM] at hblk
   subst hblk
   refine ⟨b,E.push {key:=keyV n' k,val:= .bool true,born:=clock},clock+1,hθ,by simp [hlt],hnZ,?_,?_⟩
   · simp only [Array.toList_push,List.map_append,List.map_cons,List.map_nil,List.reverse_cons,hK.1]
   · intro k' hk'
     rcases List.mem_cons.1 hk' with h | h
     · rw [h]; exact hlen
     · exact hK.2 k' h)
 exact ⟨.junk _ _,hst.2,λ_ _=>rfl,hst.1,by simp⟩
theorem run_callclo {o:Oper} {c:Call} {f:Nat} {t:Nat} {u:Value}(ho:o.op= .call c)(hc:c.callee= .value (.tmp t))(hv:a.eval (.tmp t) = .func (.func f) #[] #[u]) {fn:Func}(hf:P.funcs[f]? =some fn)(hb:fn.body.isSome=true)(hn:(fn.name == "runtime.NumGoroutine") =false):
 (execOp a.eval o).run P w= .ok (.enter f (c.args.map a.eval ++ #[u])) w:=by
 have hb':fn.body.isNone=false:=by
  cases h:fn.body with
  | none=>rw [h] at hb; cases hb
  | some _=>rfl
 have hn':¬ fn.name= "runtime.NumGoroutine":=by simpa using hn
 have hb'':¬ fn.body=none:=by rintro h; rw [h] at hb'; cases hb'
 simp [execOp,ho,resolve,hc,hv,Deferred.ofValue,invoke,callFunc,hf,hn',hb'']
end
end Go.Ev
namespace Go.Ev
open Go Go.RowKit
section
variable {P:Program} {X:Cx} {Z:Nat→Prop} {w:World} {θ:Nat→Value} {a:Act} {σ:St} {p:List (Nat×Bool)}
theorem zeroJs_cells:∀ {vs:List Value} {xs:List AV},zeroJs vs=some xs→Cells Z w θ xs vs
 | [],xs,h=>by simp [zeroJs] at h; subst h; exact .nil _ _ _
 | v ::vs,xs,h=>by
   unfold zeroJs at h
   split at h<;>try (cases h; done)
   rename_i y ys hy hys
   simp only [sI] at h; subst h
   have ih:=zeroJs_cells hys
   cases hc:constAV v with
   | some c=>
     rw [hc] at hy
     simp only [Option.some_or,sI] at hy; subst hy
     have:=constAV_rep (Z:=Z) (w:=w) (θ:=θ) hc
     exact Cells.append (Cells.one' this.1 (Zp0 this.2) (this.1.oneCell (Zp0 this.2) (clean0_ne this.2))) ih
   | none=>
     rw [hc] at hy
     simp only [Option.none_or] at hy
     split at hy<;>try (cases hy; done)
     simp only [sI] at hy; subst hy
     exact Cells.append (Cells.one' (.junk _ _) rfl rfl) ih
theorem zeroJ_spec {t:TypeId} {z:List AV}(h:zeroJ P t=some z):∃ v,(∀ w,(zeroValue t).run P w= .ok v w)∧∃ vs,v.cells=List.toArray vs∧Cells Z w θ z vs:=by
 unfold zeroJ at h
 split at h<;>try (cases h; done)
 rename_i v hv
 rw [Option.bind_eq_some_iff] at hv
 obtain ⟨i,hi,hz⟩:=hv
 exact ⟨v,λw=>by simp [zeroValue,run_typeInfo w hi,hz],v.cells.toList,by simp,zeroJs_cells h⟩
variable (hs:∀ k,SRep Z w θ a.tmps (σ.s k) (a.tmps.getD k undef))(hp:pathT a.tmps p)
include hs hp
theorem calm_buildJ {o:Oper} {t:TypeId} {ps:Array (Nat×Operand)}(ho:o.op= .build t ps) {fs:Array Field}(hu:P.underlying t=some (.struct fs))(hall:fs.all (λf=>(P.info? f.type).isSome) =true) {z:List AV}(hz:zeroJ P t=some z)
 {qs:List (Nat×Nat×A)} (hc:compParts P fs ps.toList=some qs) {r:Res} (he:(match fillA σ p z qs with | some cs=>Res.q (.agg cs) | none=>none) =some r):Calm P Z w θ a o r:=by
 split at he<;>try (cases he; done)
 rename_i xs hxs
 obtain ⟨v,hzero,vs,hvs,hcs⟩:=zeroJ_spec (Z:=Z) (w:=w) (θ:=θ) hz
 have hall':∀ f∈fs.toList,(P.info? f.type).isSome=true:=by
  intro f hf
  have:=(Array.all_eq_true_iff_forall_mem).1 hall f (by simpa using hf)
  exact this
 obtain ⟨us,hfill,hcu⟩:=fill_parts hs hp fs (λi=>((fs.toList.map λf=>(f.offset,P.cellsOf f.type)).toArray)[i]?) (by
  intro i f s hf hsz
  obtain ⟨j,hj,rfl⟩:=sizeP_info hsz
  simp [hf,Program.cellsOf,hj]) ps.toList qs z xs vs hc hxs hcs
 refine .q he (v:= .agg us.toArray) ?_ hcu.agg
 have hm:(fs.mapM (λf=>(do pure (f.offset,← sizeOf f.type):Sem (Nat×Nat)))).run P w= .ok (fs.toList.map λf=>(f.offset,P.cellsOf f.type)).toArray w:=by
  rw [Array.mapM_eq_mapM_toList,Sem.run_map,run_places fs.toList hall']
  rfl
 have hparts:(ps.map λx=>(x.1,a.eval x.2)).toList=ps.toList.map λx=>(x.1,a.eval x.2):=by simp
 simp only [execOp,ho,Instr.build,Sem.run_bind,hzero,Result.andThen_ok,run_underlying hu,hm,hvs,hparts,hfill,Sem.run_pure]
omit hs hp in
theorem pvO_some {k:PV} {xs:List A} {r:Res}(h:pvO k (avs σ p xs) =some r):∃ vs,avs σ p xs=some vs∧pvR k vs=some r:=by
 cases hv:avs σ p xs with
 | none=>rw [hv] at h; cases h
 | some vs=>rw [hv] at h; exact ⟨vs,rfl,h⟩
omit hs hp in
theorem avs_1 {x:A} {vs:List AV}(h:avs σ p [x] =some vs):∃ v,av σ p x=some v∧vs= [v]:=by
 simp only [avs] at h
 cases hv:av σ p x with
 | none=>rw [hv] at h; cases h
 | some v=>rw [hv] at h; simp at h; exact ⟨v,rfl,h.symm⟩
omit hs hp in
theorem avs_c {x:A} {xs:List A} {vs:List AV}(h:avs σ p (x::xs) =some vs):∃ v us,av σ p x=some v∧avs σ p xs=some us∧vs=v::us:=by
 simp only [avs] at h
 cases hv:av σ p x with
 | none=>rw [hv] at h; cases h
 | some v=>
   rw [hv] at h
   cases hw:avs σ p xs with
   | none=>rw [hw] at h; cases h
   | some us=>rw [hw] at h; simp at h; exact ⟨v,us,rfl,rfl,h.symm⟩
theorem calm_shv {o:Oper} {left:Bool} {t u:TypeId} {x y:Operand}(ho:o.op= .binOp (match left with | true=> .shl | false=> .shr) t x y u) {x' y':A}(hx:compA x=some x')(hy:compA y=some y') {r:Res}
 (he:pvO (.shv left) (avs σ p [x',y']) =some r) (hpre:∀ q∈r.pre,q):Calm P Z w θ a o r:=by
 obtain ⟨vs,hvs,h⟩:=pvO_some he
 obtain ⟨vx,us,hvx,hus,rfl⟩:=avs_c hvs
 obtain ⟨vy,hvy,rfl⟩:=avs_1 hus
 have hrx:=av_rep hs hp hx hvx
 have hry:=av_rep hs hp hy hvy
 simp only [pvR] at h
 unfold shvR at h
 split at h<;>try (cases h; done)
 rename_i k n k' m
 simp only [sI] at h; subst h
 have hm:0≤m:=hpre _ (by simp)
 generalize ex:a.eval x=v1 at hrx
 generalize ey:a.eval y=v2 at hry
 cases hrx; cases hry
 have hn0:¬ (m < 0):=by omega
 cases left with
 | true=>exact ⟨rfl,rfl,by simp,.int k (k.wrap (n * 2 ^ (min m.toNat k.bits))),by simp [execOp,ho,ex,ey,eqGuard,binOp,Op.shift,hn0],.int _ _ _⟩
 | false=>exact ⟨rfl,rfl,by simp,.int k (n.fdiv (2 ^ (min m.toNat k.bits))),by simp [execOp,ho,ex,ey,eqGuard,binOp,Op.shift,hn0],.int _ _ _⟩
theorem calm_sadd {o:Oper} {t u:TypeId} {x y:Operand}(ho:o.op= .binOp .add t x y u) {x' y':A}(hx:compA x=some x')(hy:compA y=some y') {r:Res}
 (he:pvO .sadd (avs σ p [x',y']) =some r) (hpre:∀ q∈r.pre,q):Calm P Z w θ a o r:=by
 obtain ⟨vs,hvs,h⟩:=pvO_some he
 obtain ⟨vx,us,hvx,hus,rfl⟩:=avs_c hvs
 obtain ⟨vy,hvy,rfl⟩:=avs_1 hus
 have hrx:=av_rep hs hp hx hvx
 have hry:=av_rep hs hp hy hvy
 simp only [pvR] at h
 unfold saddR at h
 split at h<;>try (cases h; done)
 rename_i s1 s2
 simp only [sI] at h; subst h
 have hle:((s1.length+s2.length:Nat):Int)≤9223372036854775807:=hpre _ (by simp)
 generalize ex:a.eval x=v1 at hrx
 generalize ey:a.eval y=v2 at hry
 cases hrx; cases hry
 have h1:¬ (9223372036854775807 < (s1.length:Int)+s2.length):=by omega
 have happ:(ByteArray.mk s1.toArray ++ ByteArray.mk s2.toArray) =ByteArray.mk (s1 ++ s2).toArray:=by
  apply ByteArray.ext
  simp [ByteArray.data_append]
 have hmax:IntKind.i64.max=9223372036854775807:=by decide
 refine ⟨rfl,rfl,by simp,.string ⟨(s1 ++ s2).toArray⟩,?_,.str _ _⟩
 simp [execOp,ho,ex,ey,eqGuard,binOp,Op.stringOp,ByteArray.size,hmax,h1,happ]
theorem calm_nilp {o:Oper} {neg:Bool} {t u e:TypeId} {x y:Operand}(ho:o.op= .binOp (match neg with | true=> .neq | false=> .eql) t x y u)(hu:P.underlying t=some (.pointer e))(hy:isNilP y=true) {x':A}(hx:compA x=some x') {r:Res}
 (he:pvO (.nilp neg) (avs σ p [x']) =some r):Calm P Z w θ a o r:=by
 obtain ⟨vs,hvs,h⟩:=pvO_some he
 obtain ⟨vx,hvx,rfl⟩:=avs_1 hvs
 have hrx:=av_rep hs hp hx hvx
 simp only [pvR] at h
 obtain ⟨ad,had⟩:∃ ad,a.eval x= .pointer (some ad)∧r= ⟨[],[],.bool neg,[],none,[]⟩:=by
  unfold nilpR at h
  split at h<;>try (cases h; done)
  · generalize a.eval x=v at hrx
    simp only [Res.q,sI] at h
    cases hrx
    exact ⟨_,rfl,h.symm⟩
  · generalize a.eval x=v at hrx
    simp only [Res.q,sI] at h
    cases hrx
    exact ⟨_,rfl,h.symm⟩
 obtain ⟨ex,rfl⟩:=had
 have ey:a.eval y= .pointer none:=by
  unfold isNilP at hy
  split at hy<;>first | rfl | cases hy
 have heq:(Op.equal t (.pointer (some ad)) (.pointer none)).run P w= .ok false w:=by
  simp only [Op.equal,Op.maxDepth]
  rw [Op.equalIn]
  simp [run_underlying hu]
 refine ⟨rfl,rfl,by simp,.bool neg,?_,.bool _ _⟩
 cases neg with
 | true=>simp [execOp,ho,ex,ey,eqGuard,binOp,heq]
 | false=>simp [execOp,ho,ex,ey,eqGuard,binOp,heq]
omit hs hp in
theorem av_int {x:Operand} {x':A}(hs:∀ k,SRep Z w θ a.tmps (σ.s k) (a.tmps.getD k undef))(hp:pathT a.tmps p)(hx:compA x=some x') {k:IntKind} {n:Int}(h:av σ p x'=some (.int k n)):a.eval x= .int k n:=by
 have hr:=av_rep hs hp hx h
 generalize a.eval x=v at hr
 cases hr; rfl
theorem calm_glob {o:Oper} {t e:TypeId} {i:Operand}(ho:o.op= .indexAddr t (.global 0) i)(hu:P.underlying t=some (.array 6 e))(hsz:sizeP P e=some 1) {i':A}(hi:compA i=some i') {r:Res}
 (he:pvO .glob (avs σ p [i']) =some r) (hpre:∀ q∈r.pre,q) (hg:Glb Z w):Calm P Z w θ a o r:=by
 obtain ⟨vs,hvs,h⟩:=pvO_some he
 obtain ⟨vi,hvi,rfl⟩:=avs_1 hvs
 simp only [pvR] at h
 unfold globR at h
 split at h<;>try (cases h; done)
 rename_i k j
 simp only [sI] at h; subst h
 have hj:0≤j∧j < 6:=hpre _ (by simp)
 have ei:=av_int hs hp hi hvi
 obtain ⟨hz,T,st,hh⟩:=hg
 have hsel:sel 6 j=j.toNat:=by unfold sel; rw [if_pos (by omega)]
 have hcs:Cells Z w th0 glbA [Value.int .u8 0,.int .u8 2,.int .u8 4,.int .u8 7,.int .u8 9,.int .u8 11]:=by
  have one:∀ n:Int,Cells Z w th0 [.int .u8 n] [Value.int .u8 n]:=λn=>Cells.one' (.int _ _ _) rfl rfl
  exact ((((((one 0).append (one 2)).append (one 4)).append (one 7)).append (one 9)).append (one 11))
 have hglob:a.eval (.global 0) = .pointer (some ⟨0,0,none⟩):=rfl
 refine ⟨rfl,rfl,by simp,.pointer (some ⟨0,j.toNat,none⟩),?_,?_⟩
 · have hj':0≤j∧j < ((6:Nat):Int):=by omega
   simp [execOp,ho,hglob,ei,Instr.indexAt,asIntOf,run_underlying hu,Instr.sureAddr,hj',Qm0 hsz,Qp0]
   intro h6; omega
 · rw [hsel]
   exact rep_ep1 hcs hh hz
theorem calm_toArr {o:Oper} {t e:TypeId} {n:Nat} {x:Operand}(ho:o.op= .sliceToArrayPointer t x)(hu:P.underlying t=some (.array n e)) {x':A}(hx:compA x=some x') {r:Res}
 (he:pvO (.toArr n) (avs σ p [x']) =some r) (hpre:∀ q∈r.pre,q):Calm P Z w θ a o r:=by
 obtain ⟨vs,hvs,h⟩:=pvO_some he
 obtain ⟨vx,hvx,rfl⟩:=avs_1 hvs
 have hr:=av_rep hs hp hx hvx
 simp only [pvR] at h
 unfold toArrR at h
 split at h<;>try (cases h; done)
 rename_i z es
 split at h<;>try (cases h; done)
 rename_i hz1
 simp only [sI] at h; subst h
 obtain ⟨hn0,hn⟩:0 < n∧n≤es.length:=hpre _ (by simp)
 generalize ex:a.eval x=v at hr
 cases hr with
 | lst _ _ _ ad cap f hc hm hz hat hmem h1 hrep=>
   obtain ⟨b,o0,rfl,hb,hcell⟩:=hmem (by rintro rfl; simp at hn; omega)
   have hlt:¬ es.length < n:=by omega
   refine ⟨rfl,rfl,by simp,.pointer (some ⟨b,o0,none⟩),by simp [execOp,ho,ex,Instr.arrayAt,run_underlying hu,hlt],?_⟩
   have hcat:∀ (i j:Nat) (c:AV),cellAt [toArrL z es n] i j=some c→i=0∧j < n∧cellAt es j 0=some c:=by
    intro i j c hc
    unfold cellAt at hc
    cases i with
    | succ i=>simp at hc
    | zero=>
      simp only [List.getElem?_cons_zero,Option.bind_some,toArrL,List.getElem?_map] at hc
      obtain ⟨k,hk,rfl⟩:=Option.map_eq_some_iff.1 hc
      rw [List.getElem?_eq_some_iff] at hk
      obtain ⟨hk1,hk2⟩:=hk
      simp only [List.length_range] at hk1
      simp only [List.getElem_range] at hk2
      subst hk2
      refine ⟨rfl,hk1,?_⟩
      unfold cellAt
      rw [List.getElem?_eq_getElem (show j < es.length by omega)]
      have hl:=hz es[j] (List.getElem_mem _)
      rw [hz1] at hl
      simp only [Option.bind_some,getE,List.getD_eq_getElem?_getD,List.getElem?_eq_getElem (show j < es.length by omega),Option.getD_some]
      rw [List.getElem?_eq_getElem (show 0 < es[j].length by omega)]
      rfl
   have:=Rep.ep (Z:=Z) (w:=w) θ (toArrL z es n) [toArrL z es n] 0 0 b o0 (λ_ j=>f j 0) (by simp) (by simp) (by
    intro e he c hce
    simp only [List.mem_singleton] at he; subst he
    obtain ⟨j,hj⟩:=List.getElem?_of_mem hce
    obtain ⟨_,_,h3⟩:=hcat 0 j c (by simp [cellAt,hj])
    unfold cellAt at h3
    obtain ⟨e',he',hc'⟩:=Option.bind_eq_some_iff.1 h3
    exact hat e' (List.mem_of_getElem? he') c (List.mem_of_getElem? hc')) hb ?_ ?_ ?_
   · simpa using this
   · intro i j c hc
     obtain ⟨rfl,hj,h3⟩:=hcat i j c hc
     have:=hcell j 0 c h3
     simpa [hz1] using this
   · intro i j c hc
     obtain ⟨rfl,hj,h3⟩:=hcat i j c hc
     exact h1 j 0 c h3
   · intro i j c hc
     obtain ⟨rfl,hj,h3⟩:=hcat i j c hc
     exact hrep j 0 c h3
omit hs hp in
theorem compO_inv {x:Option Operand} {y:Option A}(h:compO x=some y):(x=none∧y=none)∨∃ o a,x=some o∧y=some a∧compA o=some a:=by
 cases x with
 | none=>simp [compO] at h; exact .inl ⟨rfl,h.symm⟩
 | some o=>
   simp only [compO] at h
   obtain ⟨a,ha,rfl⟩:=Option.map_eq_some_iff.1 h
   exact .inr ⟨o,a,rfl,rfl,ha⟩
theorem calm_ssl {o:Oper} {t:TypeId} {x:Operand} {l h:Option Operand}(ho:o.op= .slice t x l h none)(hu:P.underlying t=some .string) {x':A} {l' h':Option A}(hx:compA x=some x')(hl:compO l=some l')(hh:compO h=some h') {r:Res}
 (he:pvO (.ssl l'.isSome h'.isSome) (avs σ p (x'::(optA l' ++ optA h'))) =some r) (hpre:∀ q∈r.pre,q):Calm P Z w θ a o r:=by
 obtain ⟨vs,hvs,he⟩:=pvO_some he
 obtain ⟨vx,us,hvx,hus,rfl⟩:=avs_c hvs
 have hrx:=av_rep hs hp hx hvx
 have key:∃ (li hi:Option Int),(∀ n,li=some n→∃ ol k,l=some ol∧a.eval ol= .int k n)∧(li=none→l=none)∧(∀ n,hi=some n→∃ oh k,h=some oh∧a.eval oh= .int k n)∧(hi=none→h=none)∧sslR li hi vx=some r:=by
  rcases compO_inv hl with ⟨rfl,rfl⟩ | ⟨ol,al,rfl,rfl,hal⟩<;>rcases compO_inv hh with ⟨rfl,rfl⟩ | ⟨oh,ah,rfl,rfl,hah⟩
  · simp only [optA,List.append_nil,avs,sI] at hus; subst hus
    exact ⟨none,none,by simp,by simp,by simp,by simp,he⟩
  · simp only [optA,List.nil_append] at hus
    obtain ⟨vh,hvh,rfl⟩:=avs_1 hus
    cases vh<;>simp only [Option.isSome_none,Option.isSome_some,pvR] at he<;>try (cases he; done)
    exact ⟨none,some _,by simp,by simp,by rintro n ⟨⟩; exact ⟨_,_,rfl,av_int hs hp hah hvh⟩,by simp,he⟩
  · simp only [optA,List.append_nil] at hus
    obtain ⟨vl,hvl,rfl⟩:=avs_1 hus
    cases vl<;>simp only [Option.isSome_none,Option.isSome_some,pvR] at he<;>try (cases he; done)
    exact ⟨some _,none,by rintro n ⟨⟩; exact ⟨_,_,rfl,av_int hs hp hal hvl⟩,by simp,by simp,by simp,he⟩
  · simp only [optA,List.cons_append,List.nil_append] at hus
    obtain ⟨vl,u2,hvl,hus2,rfl⟩:=avs_c hus
    obtain ⟨vh,hvh,rfl⟩:=avs_1 hus2
    cases vl<;>simp only [Option.isSome_some,pvR] at he<;>try (cases he; done)
    cases vh<;>simp only [Option.isSome_some,pvR] at he<;>try (cases he; done)
    exact ⟨some _,some _,by rintro n ⟨⟩; exact ⟨_,_,rfl,av_int hs hp hal hvl⟩,by simp,by rintro n ⟨⟩; exact ⟨_,_,rfl,av_int hs hp hah hvh⟩,by simp,he⟩
 obtain ⟨li,hi,kl1,kl2,kh1,kh2,hS⟩:=key
 unfold sslR at hS
 split at hS<;>try (cases hS; done)
 rename_i s
 simp only [sI] at hS; subst hS
 have hb:0≤li.getD 0∧li.getD 0≤hi.getD s.length∧hi.getD s.length≤s.length:=hpre _ (by simp)
 generalize ex:a.eval x=v1 at hrx
 cases hrx
 refine ⟨rfl,rfl,by simp,.string ⟨((s.drop (li.getD 0).toNat).take ((hi.getD s.length).toNat - (li.getD 0).toNat)).toArray⟩,?_,.str _ _⟩
 have hsize:(ByteArray.mk s.toArray).size=s.length:=by simp [ByteArray.size]
 have hH:∀ n,hi=some n→0≤n∧n≤s.length:=λn e=>by subst e; simp only [Option.getD_some] at hb; omega
 cases li with
 | none=>
   have e1:=kl2 rfl; subst e1
   cases hi with
   | none=>
     have e2:=kh2 rfl; subst e2
     simp only [execOp,ho,ex,Option.map_none,Instr.sliceAt,Sem.run_bind,run_underlying hu,Result.andThen_ok,Instr.slice,Option.isSome_none,Bool.false_eq_true,if_false,Instr.sliceBounds,Sem.run_pure,hsize,ByteArray.extract_mk,Option.getD_none]
     simp [ByteArray.extract_mk]
   | some n=>
     obtain ⟨oh,k,rfl,eh⟩:=kh1 n rfl
     have hn:=hH n rfl
     simp only [execOp,ho,ex,Option.map_none,Option.map_some,eh,Instr.sliceAt,Sem.run_bind,run_underlying hu,Result.andThen_ok,Instr.slice,Option.isSome_none,Bool.false_eq_true,if_false,Instr.sliceBounds,Instr.sliceBound,asIntOf,Sem.run_pure,hsize,hn,and_self,if_true,Option.getD_none,Option.getD_some,Sem.run_ite]
     simp [ByteArray.extract_mk]
 | some m=>
   obtain ⟨ol,kl,rfl,el⟩:=kl1 m rfl
   cases hi with
   | none=>
     have e2:=kh2 rfl; subst e2
     simp only [Option.getD_some,Option.getD_none] at hb
     have hm:0≤m∧m≤(s.length:Int):=by omega
     simp only [execOp,ho,ex,Option.map_none,Option.map_some,el,Instr.sliceAt,Sem.run_bind,run_underlying hu,Result.andThen_ok,Instr.slice,Option.isSome_none,Bool.false_eq_true,if_false,Instr.sliceBounds,Instr.sliceBound,asIntOf,Sem.run_pure,hsize,hm,and_self,if_true,Option.getD_none,Option.getD_some,Sem.run_ite]
     simp [ByteArray.extract_mk]
   | some n=>
     obtain ⟨oh,k,rfl,eh⟩:=kh1 n rfl
     have hn:=hH n rfl
     simp only [Option.getD_some] at hb
     have hm:0≤m∧m≤((n.toNat:Nat):Int):=by omega
     simp only [execOp,ho,ex,Option.map_none,Option.map_some,el,eh,Instr.sliceAt,Sem.run_bind,run_underlying hu,Result.andThen_ok,Instr.slice,Option.isSome_none,Bool.false_eq_true,if_false,Instr.sliceBounds,Instr.sliceBound,asIntOf,Sem.run_pure,hsize,hn,hm,and_self,if_true,Option.getD_none,Option.getD_some,Sem.run_ite]
     simp [ByteArray.extract_mk]
omit hs hp in
theorem pvR_calm {k:PV} {vs:List AV} {r:Res}(h:pvR k vs=some r):r.ups= []∧r.new=none∧r.tch= []:=by
 unfold pvR at h
 split at h<;>try (cases h; done)
 all_goals (first | unfold shvR at h | unfold saddR at h | unfold sslR at h | unfold nilpR at h | unfold globR at h | unfold toArrR at h)
 all_goals repeat' (first | (cases h; done) | (simp only [sI,Res.q] at h; subst h; exact ⟨rfl,rfl,rfl⟩) | split at h)
omit hs hp in
theorem pvO_calm {k:PV} {x:Option (List AV)} {r:Res}(h:pvO k x=some r):r.ups= []∧r.new=none∧r.tch= []:=by
 cases x with
 | none=>cases h
 | some vs=>exact pvR_calm h
theorem pv_sound {o:Oper} {io:IOp}(hc:compPV P o=some io) {Φ:Nat→Option Ctr}(hm:Mem X Z w θ σ.m) {d:Nat} {r:Res}(he:evOp Φ io d p σ=some r)(hpre:∀ q∈r.pre,q):OpOK P X Z w θ σ.m a o d r:=by
 have bad:∀ {k:PV} {xs:List A},io= .pv .bad xs→OpOK P X Z w θ σ.m a o d r:=by
  rintro k xs rfl
  obtain ⟨vs,_,h⟩:=pvO_some (σ:=σ) (p:=p) he
  cases h
 unfold compPV at hc
 split at hc
 · rename_i op t x y u ho
   split at hc<;>try (cases hc; done)
   · rename_i k x' y' hu hx hy
     simp only [sI] at hc; subst hc
     exact .of_calm (calm_shv (left:=true) hs hp ho hx hy he hpre) hm
   · rename_i k x' y' hu hx hy
     simp only [sI] at hc; subst hc
     exact .of_calm (calm_shv (left:=false) hs hp ho hx hy he hpre) hm
   · rename_i x' y' hu hx hy
     simp only [sI] at hc; subst hc
     exact .of_calm (calm_sadd hs hp ho hx hy he hpre) hm
   · rename_i e x' y' hu hx hy
     split at hc<;>try (cases hc; done)
     rename_i hn
     simp only [sI] at hc; subst hc
     exact .of_calm (calm_nilp (neg:=false) hs hp ho hu hn hx he) hm
   · rename_i e x' y' hu hx hy
     split at hc<;>try (cases hc; done)
     rename_i hn
     simp only [sI] at hc; subst hc
     exact .of_calm (calm_nilp (neg:=true) hs hp ho hu hn hx he) hm
 · rename_i t x l h ho
   split at hc<;>try (cases hc; done)
   rename_i x' l' h' hu hx hl hh
   simp only [sI] at hc; subst hc
   exact .of_calm (calm_ssl hs hp ho hu hx hl hh he hpre) hm
 · rename_i t i ho
   split at hc<;>try (cases hc; done)
   rename_i e i' hu hi
   split at hc<;>try (cases hc; done)
   rename_i hue hsz
   simp only [sI] at hc; subst hc
   exact .of_calm (calm_glob hs hp ho hu hsz hi he hpre hm.glb) hm
 · rename_i t x ho
   split at hc<;>try (cases hc; done)
   rename_i n e x' hu hx
   simp only [sI] at hc; subst hc
   exact .of_calm (calm_toArr hs hp ho hu hx he hpre) hm
 · rename_i t ps ho
   split at hc<;>try (cases hc; done)
   rename_i z fs hz hu
   split at hc<;>try (cases hc; done)
   rename_i hall
   obtain ⟨qs,hq,rfl⟩:=Option.map_eq_some_iff.1 hc
   exact .of_calm (calm_buildJ hs hp ho hu hall hz hq he) hm
 · rename_i t ho
   split at hc<;>try (cases hc; done)
   simp only [sI] at hc; subst hc
   simp only [evOp,sI] at he; subst he
   exact ok_mkmap hm ho 9
 · simp only [sI] at hc; exact bad (k:= .bad) hc.symm
 · simp only [sI] at hc; exact bad (k:= .bad) hc.symm
 · simp only [sI] at hc; exact bad (k:= .bad) hc.symm
 · simp only [sI] at hc; exact bad (k:= .bad) hc.symm
 · split at hc<;>try (cases hc; done)
   simp only [sI] at hc; exact bad (k:= .bad) hc.symm
 · cases hc
end
end Go.Ev
namespace Go.Ev
open Go Go.RowKit
section
variable {P:Program} {dr own:Bool} {X:Cx} {Z:Nat→Prop} {w:World} {θ:Nat→Value} {a:Act} {σ:St} {p:List (Nat×Bool)} {Φ:Nat→Option Ctr}
theorem Qk0 {α β:Type} {x:Option α} {f:α→β} {y:β}(h:x.map f=some y):∃ z,x=some z∧f z=y:=by
 cases x with
 | none=>cases h
 | some z=>exact ⟨z,rfl,by simpa using h⟩
theorem lenM_or (m:Nat→Option Blk)(ty:Nat)(y:AV):(∃ r a b c,y= .vw r a b c)∨lenM m ty y=lenR ty y:=by
 cases y<;>first | exact .inl ⟨_,_,_,_,rfl⟩ | exact .inr rfl
theorem ok_len (hs:∀ k,SRep Z w θ a.tmps (σ.s k) (a.tmps.getD k undef))(hp:pathT a.tmps p)(hm:Mem X Z w θ σ.m) {o:Oper} {c:Call} {x:Operand}(ho:o.op= .call c)(hc1:c.callee= .builtin .len)(hc2:c.args= #[x]) {t:TypeId}(ht:c.argTypes[0]? =some t)
 {x':A} (hx:compA x=some x') {ty:Nat} {r:Res} (hty:ty=0→∃ e,P.underlying t=some (.slice e)) (hplain:bind1 (av σ p x') (lenR ty) =some r→Calm P Z w θ a o r) (he:bind1 (av σ p x') (lenM σ.m ty) =some r) {d:Nat}:OpOK P X Z w θ σ.m a o d r:=by
 obtain ⟨y,hy,h⟩:=Qe0 he
 rcases lenM_or σ.m ty y with ⟨r0,a0,b0,c0,rfl⟩ | heq
 · have hr :=av_rep hs hp hx hy
   simp only [lenM] at h
   cases hmr:σ.m r0 with
   | none=>rw [hmr] at h; cases h
   | some blk=>
     cases blk with
     | cells cs=>rw [hmr] at h; cases h
     | dead=>rw [hmr] at h; cases h
     | ms n ks=>rw [hmr] at h; cases h
     | clo f z es i off=>rw [hmr] at h; cases h
     | qb T z es=>
       rw [hmr] at h
       simp only [lenV] at h
       split at h<;>try (cases h; done)
       simp only [sI] at h; subst h
       obtain ⟨e,hu⟩:=hty rfl
       obtain ⟨_,_,xs,hown,_⟩:=hm.brep r0 _ hmr
       have hrun:=λres=>run_len (σ:=σ) (P:=P) (w:=w) hs hp ho hc1 hc2 (res:=res)
       generalize a.eval x=v at hr hrun
       cases hr with
       | vw _ _ _ _ _ ad n c' hθ=>
         rw [hθ] at hown
         have hn:n=es.length∧es.length≤9223372036854775807:=by
          rcases hown.2 with ⟨h3,h4⟩ | ⟨g,o0,cap,cur,h3,_,hnc,hcm,_⟩
          · cases h3; omega
          · cases h3; unfold maxLen at hcm; omega
         obtain ⟨rfl,hle⟩:=hn
         refine .of_calm ⟨rfl,rfl,?_,_,hrun (.int .i64 es.length) ?_,.int _ _ _⟩ hm
         · intro q hq
           simp only [List.mem_singleton] at hq
           subst hq
           exact hle
         · simp [Builtin.len_,ht,run_underlying hu,goInt]
     | buf T z es=>
       rw [hmr] at h
       simp only [lenV] at h
       split at h<;>try (cases h; done)
       simp only [sI] at h; subst h
       obtain ⟨e,hu⟩:=hty rfl
       obtain ⟨⟨hrows,ad,c',news,hv,_⟩,xs,hown,_⟩:=reads_buf hm hmr hr
       have hrun:=λres=>run_len (σ:=σ) (P:=P) (w:=w) hs hp ho hc1 hc2 (res:=res)
       refine .of_calm ⟨rfl,rfl,?_,_,hrun (.int .i64 es.length) ?_,.int _ _ _⟩ hm
       · intro q hq
         simp only [List.mem_singleton] at hq
         subst hq
         rcases hown.2 with ⟨_,hn⟩ | ⟨g,cap,cur,_,_,_,hnc,hcm,_⟩
         · rw [hn]; omega
         · unfold maxLen at hcm; omega
       · rw [hv]
         simp [Builtin.len_,ht,run_underlying hu,goInt]
 · exact .of_calm (hplain (by rw [hy]; rw [heq] at h; exact h)) hm
theorem cpR0_inv {m:Nat→Option Blk} {sz:Nat} {x y:AV} {r:Res}(h:cpR0 m sz x y=some r):∃ r0 a b c T z es ys t',x= .vw r0 a b c∧m r0=some (.buf T z es)∧ysOf m 1 y=some (ys,t')∧sz=1∧z.length=1∧
 r= ⟨[],[],.int .i64 ((min ys.length es.length:Nat):Int),[(r0,.buf T z (ys.take es.length ++ es.drop ys.length))],none,r0::t'⟩:=by
 cases x<;>try (cases h; done)
 simp only [cpR0] at h
 unfold cpB at h
 split at h<;>try (cases h; done)
 rename_i h1 h2
 split at h<;>try (cases h; done)
 rename_i hc
 simp only [sI] at h
 have hc:=of_decide_eq_true hc
 exact ⟨_,_,_,_,_,_,_,_,_,rfl,h1,h2,hc.1,hc.2,h.symm⟩
theorem ok_copy0 (hs:∀ k,SRep Z w θ a.tmps (σ.s k) (a.tmps.getD k undef))(hp:pathT a.tmps p)(hm:Mem X Z w θ σ.m) {o:Oper} {c:Call}(ho:o.op= .call c)(hcal:c.callee= .builtin .copy) {x1 y1:A}(hxs:compAs c.args.toList=some [x1,y1])
 {e:TypeId} (hu:(c.argTypes[0]?).bind P.underlying=some (.slice e)) (h2:c.argTypes.size=2) {s:Nat} (hsz:sizeP P e=some s) {d:Nat} {r:Res} (he:bind2 (av σ p x1) (av σ p y1) (cpR0 σ.m s) =some r):OpOK P X Z w θ σ.m a o d r:=by
 obtain ⟨t,ht0,ht⟩:=Option.bind_eq_some_iff.1 hu
 obtain ⟨vx,vy,hx,hy,hE⟩:=Qd0 he
 have hreps:=Zf0 hs hp hxs (ys:=[vx,vy]) (by simp [avs,hx,hy])
 generalize hl:c.args.toList.map a.eval=l at hreps
 have hlen:=hreps.len
 match l,hlen,hreps,hl with
 | [u1, u2], _,hreps,hl=>
   have r1:=hreps.rep 0 _ u1 rfl rfl
   have r2:=hreps.rep 1 _ u2 rfl rfl
   have hargs:c.args.map a.eval= #[u1,u2]:=by
    apply Array.ext'; simpa using hl
   obtain ⟨t2,hat⟩:∃ t2,c.argTypes= #[t,t2]:=by
    refine ⟨c.argTypes[1]'(by omega),?_⟩
    apply Array.ext'
    refine List.ext_getElem? λj=>?_
    match j with
    | 0=>simpa using ht0
    | 1=>simp [h2]
    | j+2=>
      have:c.argTypes.toList.length=2:=by simpa using h2
      rw [List.getElem?_eq_none (by omega)]
      simp
   clear he
   obtain ⟨r0,q1,q2,q3,T,z,es,ys,t',rfl,hmr,hys,rfl,hz1,rfl⟩:=cpR0_inv hE
   obtain ⟨hrows2,ad,c',news,rfl,had,hnl,hnews,hcn⟩:=ys_spec hm (by omega) r2 hys
   obtain ⟨hz0,hz,xs,hown,hnz,hcs⟩:=hm.brep r0 _ hmr
   have hs1:(P.info? e).map (·.size) =some 1:=hsz
   obtain ⟨a0,nn,cc,rfl,hθ⟩:∃ a0 nn cc,u1= .slice a0 nn cc∧θ r0= .slice a0 nn cc:=by
    cases r1 with
    | vw _ _ _ _ _ a n c h=>exact ⟨a,n,c,rfl,h⟩
   rw [hz1] at hown
   have hxl:xs.length=es.length:=by have:=hown.1; omega
   have hnl:news.length=ys.length:=by omega
   have hrun0:∀ {res:Value} {w':World},(Builtin.copy_ #[t,t2] o.type #[.slice a0 nn cc,.slice ad ys.length c']).run P w= .ok res w'→(execOp a.eval o).run P w= .ok (.value res) w':=by
    intro res w' h
    simp [execOp,ho,resolve,hcal,invoke,builtin,hargs,hat,h]
   have hrw:∀ e∈ys.take es.length ++ es.drop ys.length,e.length=z.length:=by
    intro q hq
    rcases List.mem_append.1 hq with hq | hq
    · rw [hrows2 q (List.mem_of_mem_take hq),hz1]
    · exact hz q (List.mem_of_mem_drop hq)
   have hfl:(ys.take es.length ++ es.drop ys.length).flatten=ys.flatten.take es.length ++ es.flatten.drop ys.length:=by
    rw [List.flatten_append,flat_takek (k:=1) hrows2,flat_dropk (k:=1) (λe he=>by rw [hz e he,hz1]),Nat.mul_one,Nat.mul_one]
   have hrl:(ys.take es.length ++ es.drop ys.length).length=es.length:=by
    rw [List.length_append,List.length_take,List.length_drop]; omega
   rw [hθ] at hown
   by_cases h0:min ys.length es.length=0
   · have hnl0:es.length=nn:=by
      rcases hown.2 with ⟨h,hn⟩ | ⟨g,cap,cur,h,_⟩
      · simp only [Value.slice.injEq] at h; omega
      · simp only [Value.slice.injEq] at h; omega
     have hr:=run_copy_none (P:=P) w t t2 o.type e a0 ad nn cc ys.length c' ht hs1 (by rw [← hnl0]; exact h0)
     have hsame:ys.take es.length ++ es.drop ys.length=es:=by
      rcases (show ys.length=0∨es.length=0 by omega) with h | h
      · rw [List.eq_nil_of_length_eq_zero h]; simp
      · rw [List.eq_nil_of_length_eq_zero h]; simp
     intro K Q hK
     refine Qo0 (hrun0 hr) (hK _ Z w θ ⟨?_,.refl Z w,λ_ _=>rfl,?_,by simp⟩)
     · rw [h0]; exact .int _ _ _
     · show Mem X Z w θ (updL σ.m [(r0,.buf T z _)])
       rw [hsame]
       have:updL σ.m [(r0,.buf T z es)] =σ.m:=by
        funext k
        simp only [updL,updM]
        by_cases hk:k=r0
        · rw [if_pos hk,hk,hmr]; rfl
        · rw [if_neg hk]
       rw [this]; exact hm
   · rcases hown.2 with ⟨_,hn⟩ | ⟨g,cap,cur,hv,_,hheap,hnc,hcm,hcsz,htake⟩
     · omega
     · simp only [Value.slice.injEq] at hv
       obtain ⟨rfl,rfl,rfl⟩:=hv
       have hyn:ys.length≠0:=by omega
       obtain ⟨sa,rfl⟩:=Option.isSome_iff_exists.1 (had hyn)
       have hnw:=hnews sa rfl
       have hl1:(news.take es.length).length=Nat.min ys.length es.length:=by rw [List.length_take,hnl]; exact Nat.min_comm _ _
       simp only [Nat.mul_one] at hcsz
       have hle:(news.take es.length).length≤es.length:=by rw [List.length_take]; exact Nat.min_le_left _ _
       have hr:=run_copy_row (P:=P) w t t2 o.type e g 0 es.length cc sa ys.length c' cur T (news.take es.length) ht hs1 hheap hl1 (λj v hj=>by
        rw [List.getElem?_take] at hj
        split at hj
        · exact hnw j v hj
        · cases hj) (by omega) (λv hv=>hcn.one v (List.mem_of_mem_take hv))
       have hdrop:xs.drop (news.take es.length).length=xs.drop ys.length:=by
        rw [hl1]
        by_cases hle2:ys.length≤es.length
        · rw [show Nat.min ys.length es.length=ys.length from Nat.min_eq_left hle2]
        · rw [List.drop_eq_nil_of_le (by rw [show Nat.min ys.length es.length=es.length from Nat.min_eq_right (by omega)]; omega),List.drop_eq_nil_of_le (by omega)]
       intro K Q hK
       refine Qo0 (hrun0 hr) (hK _ Z _ θ ?_)
       have hst:=hm.stepW (w':=w.setRow g (cur.toList.take 0 ++ news.take es.length ++ cur.toList.drop (0+(news.take es.length).length)).toArray) (m':=updL σ.m [(r0,.buf T z (ys.take es.length ++ es.drop ys.length))]) (some r0) (λ_ h=>h) (λ_ h=> .inl h)
        (λb hb=>by simpa using hm.zlt b hb) rfl rfl rfl (by simp) (λk hk hne=>Ql0 w g k _ (by
         intro e; subst e; exact hne r0 rfl (by rw [hθ]; rfl))) (λr' hr'=>by
         have:r'≠r0:=λe=>hr' (by rw [e])
         simp [updL,updM,this]) (λr' hr'=>by
         simp only [sI] at hr'; subst hr'
         refine ⟨by simp [hmr],λblk hblk=>?_⟩
         simp [updL,updM] at hblk
         subst hblk
         have g1:Goes Z w Z (w.setRow g (cur.toList.take 0 ++ news.take es.length ++ cur.toList.drop (0+(news.take es.length).length)).toArray):=⟨λ_ h=>h,λk hk=>Ql0 w g k _ (by intro e; subst e; exact hnz k (by rw [hθ]; rfl) hk)⟩
         refine ⟨hz0,hrw,(xs.take 0 ++ news.take es.length ++ xs.drop (0+(news.take es.length).length)),?_,hnz,?_⟩
         · rw [hθ,hz1,hrl]
           refine ⟨?_,.inr ⟨g,cc,_,rfl,Nat.zero_le _,Ze0 w g _ T _ hheap,hnc,hcm,?_,?_⟩⟩
           · simp only [List.length_append,List.length_take,List.length_drop,hxl,Nat.mul_one]
             omega
           · simp only [List.size_toArray,List.length_append,List.length_take,List.length_drop,Array.length_toList,hcsz,Nat.mul_one]
             omega
           · rw [List.toList_toArray,Nat.mul_one,take_put (by omega) (by rw [show cur.toList.length=cur.size from Array.length_toList,hcsz]; exact hnc)]
             rw [Nat.mul_one] at htake
             rw [htake]
         · rw [hfl]
           have h9:=((hcn.take es.length).append (hcs.drop ys.length)).step g1
           rw [← hdrop] at h9
           simpa only [List.take_zero,List.nil_append,Nat.zero_add] using h9)
       have hmin:((min ys.length es.length:Nat):Int) =((news.take es.length).length:Int):=by rw [hl1]
       refine ⟨?_,hst.2,λ_ _=>rfl,hst.1,by simp⟩
       show Rep Z _ θ (.int .i64 ((min ys.length es.length:Nat):Int)) _
       rw [hmin]
       exact .int _ _ _
theorem cpR_or (m:Nat→Option Blk)(sz:Nat)(x y:AV):(∃ r s lo hi,x= .sv r s lo hi)∨cpR m sz x y=cpR0 m sz x y:=by
 cases x<;>first | exact .inl ⟨_,_,_,_,rfl⟩ | exact .inr rfl
theorem cpS_inv {m:Nat→Option Blk} {sz r0 s lo hi:Nat} {y:AV} {r:Res}(h:cpR m sz (.sv r0 s lo hi) y=some r):∃ T z es ys t',m r0=some (.buf T z es)∧ysOf m 1 y=some (ys,t')∧sz=1∧s=1∧z.length=1∧
 r= ⟨[lo < hi∧hi≤es.length∧0 < ys.length],[],.int .i64 ((min ys.length (hi - lo):Nat):Int),[(r0,.buf T z (es.take lo ++ ys.take (hi - lo) ++ es.drop (lo+min ys.length (hi - lo))))],none,r0::t'⟩:=by
 simp only [cpR] at h
 unfold cpS at h
 split at h<;>try (cases h; done)
 rename_i h1 h2
 split at h<;>try (cases h; done)
 rename_i hc
 simp only [sI] at h
 have hc:=of_decide_eq_true hc
 exact ⟨_,_,_,_,_,h1,h2,hc.1,hc.2.1,hc.2.2,h.symm⟩
theorem ok_copy (hs:∀ k,SRep Z w θ a.tmps (σ.s k) (a.tmps.getD k undef))(hp:pathT a.tmps p)(hm:Mem X Z w θ σ.m) {o:Oper} {c:Call}(ho:o.op= .call c)(hcal:c.callee= .builtin .copy) {x1 y1:A}(hxs:compAs c.args.toList=some [x1,y1])
 {e:TypeId} (hu:(c.argTypes[0]?).bind P.underlying=some (.slice e)) (h2:c.argTypes.size=2) {s:Nat} (hsz:sizeP P e=some s) {d:Nat} {r:Res} (he:evOp Φ (.copy s x1 y1) d p σ=some r) (hpre:∀ q∈r.pre,q):OpOK P X Z w θ σ.m a o d r:=by
 simp only [evOp] at he
 obtain ⟨vx,vy,hx,hy,hE⟩:=Qd0 he
 rcases cpR_or σ.m s vx vy with ⟨r0,s0,lo,hi,rfl⟩ | h0
 rotate_left
 · refine ok_copy0 hs hp hm ho hcal hxs hu h2 hsz (r:=r) ?_
   rw [hx,hy]
   show cpR0 σ.m s vx vy=some r
   rw [← h0]; exact hE
 obtain ⟨t,ht0,ht⟩:=Option.bind_eq_some_iff.1 hu
 have hreps:=Zf0 hs hp hxs (ys:=[.sv r0 s0 lo hi,vy]) (by simp [avs,hx,hy])
 generalize hl:c.args.toList.map a.eval=l at hreps
 have hlen:=hreps.len
 match l,hlen,hreps,hl with
 | [u1,u2],_,hreps,hl=>
   have r1:=hreps.rep 0 _ u1 rfl rfl
   have r2:=hreps.rep 1 _ u2 rfl rfl
   have hargs:c.args.map a.eval= #[u1,u2]:=by
    apply Array.ext'; simpa using hl
   obtain ⟨t2,hat⟩:∃ t2,c.argTypes= #[t,t2]:=by
    refine ⟨c.argTypes[1]'(by omega),?_⟩
    apply Array.ext'
    refine List.ext_getElem? λj=>?_
    match j with
    | 0=>simpa using ht0
    | 1=>simp [h2]
    | j+2=>
      have:c.argTypes.toList.length=2:=by simpa using h2
      rw [List.getElem?_eq_none (by omega)]
      simp
   clear he
   obtain ⟨T,z,es,ys,t',hmr,hys,rfl,rfl,hz1,rfl⟩:=cpS_inv hE
   obtain ⟨hlt,hle,hyp⟩:lo < hi∧hi≤es.length∧0 < ys.length:=hpre _ (by simp)
   obtain ⟨hrows2,ad,c',news,rfl,had,hnl,hnews,hcn⟩:=ys_spec hm (by omega) r2 hys
   obtain ⟨hz0,hz,xs,hown,hnz,hcs⟩:=hm.brep r0 _ hmr
   have hs1:(P.info? e).map (·.size) =some 1:=hsz
   rw [hz1] at hown
   have hxl:xs.length=es.length:=by have:=hown.1; omega
   have hnl:news.length=ys.length:=by omega
   generalize hmn:min ys.length (hi - lo) =mn
   have hmn1:mn≤ys.length∧mn≤hi - lo∧0 < mn∧(mn=ys.length∨mn=hi - lo):=by omega
   obtain ⟨a',c2,rfl,g,hθg,hag⟩:∃ a' c2,u1= .slice a' (hi - lo) c2∧∃ g,bk (θ r0) =some g∧a'=some ⟨g,lo,none⟩:=by
    cases r1 with
    | sv _ _ _ _ _ a0 nn cc a' c2 hθ h1 h2 h3 h4 h5=>
      obtain ⟨g,hg1,hg2⟩:=h3 hlt
      exact ⟨a',c2,rfl,g,by rw [hθ,hg1]; rfl,by simpa using hg2⟩
   subst hag
   rcases hown.2 with ⟨hv,_⟩ | ⟨g',cap,cur,hv,_,hheap,hnc,hcm,hcsz,htake⟩
   · rw [hv] at hθg; cases hθg
   · have hgg:g'=g:=by rw [hv] at hθg; simpa [bk] using hθg
     subst hgg
     obtain ⟨sa,rfl⟩:=Option.isSome_iff_exists.1 (had (by omega))
     have hnw:=hnews sa rfl
     simp only [Nat.mul_one] at hcsz
     have hl1:(news.take mn).length=mn:=by rw [List.length_take]; omega
     have hl1':(news.take mn).length=Nat.min ys.length (hi - lo):=by rw [hl1,← hmn]
     have hr:=run_copy_row (P:=P) w t t2 o.type e g' lo (hi - lo) c2 sa ys.length c' cur T (news.take mn) ht hs1 hheap hl1' (λj v hj=>by
      rw [List.getElem?_take] at hj
      split at hj
      · exact hnw j v hj
      · cases hj) (by omega) (λv hv=>hcn.one v (List.mem_of_mem_take hv))
     have hrun:(execOp a.eval o).run P w= .ok (.value (goInt (news.take mn).length)) (w.setRow g' (cur.toList.take lo ++ news.take mn ++ cur.toList.drop (lo+(news.take mn).length)).toArray):=by
      simp [execOp,ho,resolve,hcal,invoke,builtin,hargs,hat,hr]
     rw [hl1] at hrun
     have hytake:ys.take (hi - lo) =ys.take mn:=by
      rcases hmn1.2.2.2 with h | h
      · rw [List.take_of_length_le (by omega),List.take_of_length_le (by omega)]
      · rw [h]
     have hrw:∀ e∈es.take lo ++ ys.take (hi - lo) ++ es.drop (lo+mn),e.length=z.length:=by
      intro q hq
      simp only [List.mem_append] at hq
      rcases hq with (hq | hq) | hq
      · exact hz q (List.mem_of_mem_take hq)
      · rw [hrows2 q (List.mem_of_mem_take hq),hz1]
      · exact hz q (List.mem_of_mem_drop hq)
     have hz':∀ e∈es,e.length=1:=λe he=>by rw [hz e he,hz1]
     have hfl:(es.take lo ++ ys.take (hi - lo) ++ es.drop (lo+mn)).flatten=es.flatten.take lo ++ ys.flatten.take mn ++ es.flatten.drop (lo+mn):=by
      rw [hytake,List.flatten_append,List.flatten_append,flat_takek (k:=1) hz',flat_takek (k:=1) hrows2,flat_dropk (k:=1) hz',Nat.mul_one,Nat.mul_one,Nat.mul_one]
     have hrl:(es.take lo ++ ys.take (hi - lo) ++ es.drop (lo+mn)).length=es.length:=by
      rw [hytake,List.length_append,List.length_append,List.length_take,List.length_take,List.length_drop]; omega
     intro K Q hK
     refine Qo0 hrun (hK _ Z _ θ ?_)
     have hst:=hm.stepW (w':=w.setRow g' (cur.toList.take lo ++ news.take mn ++ cur.toList.drop (lo+mn)).toArray) (m':=updL σ.m [(r0,.buf T z (es.take lo ++ ys.take (hi - lo) ++ es.drop (lo+mn)))]) (some r0) (λ_ h=>h) (λ_ h=> .inl h)
      (λb hb=>by simpa using hm.zlt b hb) rfl rfl rfl (by simp) (λk hk hne=>Ql0 w g' k _ (by
       intro e; subst e; exact hne r0 rfl hθg)) (λr' hr'=>by
       have:r'≠r0:=λe=>hr' (by rw [e])
       simp [updL,updM,this]) (λr' hr'=>by
       simp only [sI] at hr'; subst hr'
       refine ⟨by simp [hmr],λblk hblk=>?_⟩
       simp only [updL,updM,if_true,liveB,sI] at hblk
       subst hblk
       have g1:Goes Z w Z (w.setRow g' (cur.toList.take lo ++ news.take mn ++ cur.toList.drop (lo+mn)).toArray):=⟨λ_ h=>h,λk hk=>Ql0 w g' k _ (by intro e; subst e; exact hnz k hθg hk)⟩
       refine ⟨hz0,hrw,(xs.take lo ++ news.take mn ++ xs.drop (lo+mn)),?_,hnz,?_⟩
       · rw [hz1,hrl]
         refine ⟨?_,.inr ⟨g',cap,_,hv,Nat.zero_le _,Ze0 w g' _ T _ hheap,hnc,hcm,?_,?_⟩⟩
         · simp only [List.length_append,List.length_take,List.length_drop,hxl,Nat.mul_one]
           omega
         · simp only [List.size_toArray,List.length_append,List.length_take,List.length_drop,Array.length_toList,hcsz,Nat.mul_one]
           omega
         · have hput:=take_put (C:=cur.toList) (us:=news.take mn) (o:=lo) (N:=es.length) (by omega) (by rw [show cur.toList.length=cur.size from Array.length_toList,hcsz]; exact hnc)
           rw [hl1] at hput
           rw [List.toList_toArray,Nat.mul_one,hput]
           rw [Nat.mul_one] at htake
           rw [htake]
       · rw [hfl]
         exact ((((hcs.take lo).append (hcn.take mn)).append (hcs.drop (lo+mn))).step g1))
     refine ⟨?_,?_,λ_ _=>rfl,?_,by simp⟩
     · show Rep Z _ θ (.int .i64 ((mn:Nat):Int)) _
       exact .int _ _ _
     · exact hst.2
     · exact hst.1
theorem ok_append (hs:∀ k,SRep Z w θ a.tmps (σ.s k) (a.tmps.getD k undef))(hp:pathT a.tmps p)(hm:Mem X Z w θ σ.m) {o:Oper} {c:Call}(ho:o.op= .call c)(hcal:c.callee= .builtin .append) {x1 y1:A}(hxs:compAs c.args.toList=some [x1,y1])
 {e:TypeId} (hu:(c.argTypes[0]?).bind P.underlying=some (.slice e)) {i:TypeInfo} (hi:P.info? e=some i) {z:List AV} (hz:zeroP P e=some z) (hcond:z.length=i.size∧i.size≠0∧c.argTypes.size=2∧c.argTypes[0]? =c.argTypes[1]?) {d:Nat} (hd:d+1≠0) {r:Res}
 (he:evOp Φ (.append e i.bytes z x1 y1) d p σ=some r) (hpre:∀ q∈r.pre,q):OpOK P X Z w θ σ.m a o d r:=by
 obtain ⟨t,ht0,ht⟩:=Option.bind_eq_some_iff.1 hu
 obtain ⟨h1,h2,h3,h4⟩:=hcond
 have hat:c.argTypes= #[t,t]:=by
  have h5:c.argTypes[1]? =some t:=by rw [← h4]; exact ht0
  apply Array.ext'
  refine List.ext_getElem? λj=>?_
  match j with
  | 0=>simpa using ht0
  | 1=>simpa using h5
  | j+2=>
    have:c.argTypes.toList.length=2:=by simpa using h3
    rw [List.getElem?_eq_none (by omega)]
    simp
 simp only [evOp] at he
 obtain ⟨vx,vy,hx,hy,he⟩:=Qd0 he
 have hreps:=Zf0 hs hp hxs (ys:=[vx,vy]) (by simp [avs,hx,hy])
 generalize hl:c.args.toList.map a.eval=l at hreps
 have hlen:=hreps.len
 match l,hlen,hreps,hl with
 | [u1,u2],_,hreps,hl=>
   have r1:=hreps.rep 0 _ u1 rfl rfl
   have r2:=hreps.rep 1 _ u2 rfl rfl
   have hargs:c.args.map a.eval= #[u1,u2]:=by
    apply Array.ext'; simpa using hl
   obtain ⟨zv,hzv,hzc⟩:∃ zv,i.zero=some zv∧constAVs zv.cells.toList=some z:=by
    unfold zeroP at hz
    rw [hi] at hz
    simp only [Option.bind_some] at hz
    split at hz
    · rename_i zv hzv; exact ⟨zv,hzv,hz⟩
    · cases hz
   have hzs:zv.cells.size=i.size:=by
    have:=(Qq0 (Z:=Z) (w:=w) (θ:=θ) hzc).1.len
    rw [← h1,← this]; simp
   obtain ⟨v',w',θ',hr,hout⟩:∃ v' w' θ',(Builtin.append_ #[t,t] o.type #[u1,u2]).run P w= .ok v' w'∧Out X Z w θ σ.m d r v' Z w' θ':=by
    unfold appQR at he
    split at he
    · rename_i r0 hq
      obtain ⟨_,_,_,_,_,_,rfl,_⟩:=isQ_some hq
      exact appQ_out (P:=P) hm (ty:=o.type) ht hi hzv hzs (by omega) h1 r1 r2 he hpre
    · exact app_out (P:=P) hm hd (ty:=o.type) ht hi hzv hzs (by omega) h1 r1 r2 he hpre
   have hrun:(execOp a.eval o).run P w= .ok (.value v') w':=by
    simp [execOp,ho,resolve,hcal,invoke,builtin,hargs,hat,hr]
   exact λK Q hK=>Qo0 hrun (hK v' Z w' θ' hout)
theorem ok_appZ (hs:∀ k,SRep Z w θ a.tmps (σ.s k) (a.tmps.getD k undef))(hp:pathT a.tmps p)(hm:Mem X Z w θ σ.m) {o:Oper} {c:Call}(ho:o.op= .call c)(hcal:c.callee= .builtin .append) {x1 y1:A}(hxs:compAs c.args.toList=some [x1,y1])
 {e:TypeId} (hu:(c.argTypes[0]?).bind P.underlying=some (.slice e)) {i:TypeInfo} (hi:P.info? e=some i) {z:List AV} (hz:zeroP P e=some z) (hcond:z.length=i.size∧i.size≠0∧c.argTypes.size=2) {kk:IntKind} (hu2:(c.argTypes[1]?).bind P.underlying=some (.int kk)) {d:Nat} (hd:d+1≠0) {r:Res}
 (he:evOp Φ (.appZ e i.bytes z x1 y1) d p σ=some r) (hpre:∀ q∈r.pre,q):OpOK P X Z w θ σ.m a o d r:=by
 obtain ⟨t,ht0,ht⟩:=Option.bind_eq_some_iff.1 hu
 obtain ⟨h1,h2,h3⟩:=hcond
 obtain ⟨ti,h5,hti⟩:=Option.bind_eq_some_iff.1 hu2
 have hat:c.argTypes= #[t,ti]:=by
  apply Array.ext'
  refine List.ext_getElem? λj=>?_
  match j with
  | 0=>simpa using ht0
  | 1=>simpa using h5
  | j+2=>
    have:c.argTypes.toList.length=2:=by simpa using h3
    rw [List.getElem?_eq_none (by omega)]
    simp
 simp only [evOp] at he
 obtain ⟨vx,vy,hx,hy,he⟩:=Qd0 he
 have hreps:=Zf0 hs hp hxs (ys:=[vx,vy]) (by simp [avs,hx,hy])
 generalize hl:c.args.toList.map a.eval=l at hreps
 have hlen:=hreps.len
 match l,hlen,hreps,hl with
 | [u1,u2],_,hreps,hl=>
   have r1:=hreps.rep 0 _ u1 rfl rfl
   have r2:=hreps.rep 1 _ u2 rfl rfl
   have hargs:c.args.map a.eval= #[u1,u2]:=by
    apply Array.ext'; simpa using hl
   obtain ⟨zv,hzv,hzc⟩:∃ zv,i.zero=some zv∧constAVs zv.cells.toList=some z:=by
    unfold zeroP at hz
    rw [hi] at hz
    simp only [Option.bind_some] at hz
    split at hz
    · rename_i zv hzv; exact ⟨zv,hzv,hz⟩
    · cases hz
   have hzs:zv.cells.size=i.size:=by
    have:=(Qq0 (Z:=Z) (w:=w) (θ:=θ) hzc).1.len
    rw [← h1,← this]; simp
   obtain ⟨v',w',θ',hr,hout⟩:=app_outZ (P:=P) hm hd (ty:=o.type) ht hti hi hzv hzs (by omega) h1 hzc r1 r2 he hpre
   have hrun:(execOp a.eval o).run P w= .ok (.value v') w':=by
    simp [execOp,ho,resolve,hcal,invoke,builtin,hargs,hat,hr]
   exact λK Q hK=>Qo0 hrun (hK v' Z w' θ' hout)
theorem ok_appD (hs:∀ k,SRep Z w θ a.tmps (σ.s k) (a.tmps.getD k undef))(hp:pathT a.tmps p)(hm:Mem X Z w θ σ.m) {o:Oper} {c:Call}(ho:o.op= .call c)(hcal:c.callee= .builtin .append) {x1 y1:A}(hxs:compAs c.args.toList=some [x1,y1])
 {e:TypeId} (hu:(c.argTypes[0]?).bind P.underlying=some (.slice e)) {i:TypeInfo} (hi:P.info? e=some i) {z:List AV} (hz:zeroP P e=some z) (hcond:z.length=i.size∧i.size≠0∧c.argTypes.size=2∧c.argTypes[0]? =c.argTypes[1]?) {d:Nat} (hd:d+1≠0) {r:Res}
 (he:evOp Φ (.appD e i.bytes z x1 y1) d p σ=some r) (hpre:∀ q∈r.pre,q):OpOK P X Z w θ σ.m a o d r:=by
 obtain ⟨t,ht0,ht⟩:=Option.bind_eq_some_iff.1 hu
 obtain ⟨h1,h2,h3,h4⟩:=hcond
 have hat:c.argTypes= #[t,t]:=by
  have h5:c.argTypes[1]? =some t:=by rw [← h4]; exact ht0
  apply Array.ext'
  refine List.ext_getElem? λj=>?_
  match j with
  | 0=>simpa using ht0
  | 1=>simpa using h5
  | j+2=>
    have:c.argTypes.toList.length=2:=by simpa using h3
    rw [List.getElem?_eq_none (by omega)]
    simp
 simp only [evOp] at he
 obtain ⟨vx,vy,hx,hy,he⟩:=Qd0 he
 have hreps:=Zf0 hs hp hxs (ys:=[vx,vy]) (by simp [avs,hx,hy])
 generalize hl:c.args.toList.map a.eval=l at hreps
 have hlen:=hreps.len
 match l,hlen,hreps,hl with
 | [u1,u2],_,hreps,hl=>
   have r1:=hreps.rep 0 _ u1 rfl rfl
   have r2:=hreps.rep 1 _ u2 rfl rfl
   have hargs:c.args.map a.eval= #[u1,u2]:=by
    apply Array.ext'; simpa using hl
   obtain ⟨zv,hzv,hzc⟩:∃ zv,i.zero=some zv∧constAVs zv.cells.toList=some z:=by
    unfold zeroP at hz
    rw [hi] at hz
    simp only [Option.bind_some] at hz
    split at hz
    · rename_i zv hzv; exact ⟨zv,hzv,hz⟩
    · cases hz
   have hzs:zv.cells.size=i.size:=by
    have:=(Qq0 (Z:=Z) (w:=w) (θ:=θ) hzc).1.len
    rw [← h1,← this]; simp
   obtain ⟨v',w',θ',hr,hout⟩:=app_outD (P:=P) hm hd (ty:=o.type) ht hi hzv hzs (by omega) h1 r1 r2 he hpre
   have hrun:(execOp a.eval o).run P w= .ok (.value v') w':=by
    simp [execOp,ho,resolve,hcal,invoke,builtin,hargs,hat,hr]
   exact λK Q hK=>Qo0 hrun (hK v' Z w' θ' hout)
theorem op_sound0 (hΦ:∀ f C,Φ f=some C→Sound P f C) {o:Oper} {io:IOp}(hc:compOp0 P dr own o=some io)
 (hs:∀ k,SRep Z w θ a.tmps (σ.s k) (a.tmps.getD k undef)) (hp:pathT a.tmps p) (hm:Mem X Z w θ σ.m) {d:Nat} (hd:needD io=true→d+1≠0) {r:Res}
 (he:evOp Φ io d p σ=some r) (hpre:∀ q∈r.pre,q):OpOK P X Z w θ σ.m a o d r:=by
 have hmb:=hm.brep
 cases hop:o.op with
 | move x=>
   simp only [compOp0,hop] at hc
   obtain ⟨x',hx,rfl⟩:=Qk0 hc
   exact .of_calm (calm_mov hs hp (.inl hop) hx he) hm
 | assign x=>
   simp only [compOp0,hop] at hc
   obtain ⟨x',hx,rfl⟩:=Qk0 hc
   exact .of_calm (calm_mov hs hp (.inr hop) hx he) hm
 | pick c x y=>
   simp only [compOp0,hop] at hc
   split at hc<;>try (cases hc; done)
   rename_i c' x' y' h1 h2 h3
   simp only [sI] at hc; subst hc
   simp only [evOp] at he
   split at he<;>try (cases he; done)
   rename_i k hk
   exact .of_calm (calm_pick hs hp hop h1 h2 h3 hk he) hm
 | alloc e=>
   simp only [compOp0,hop] at hc
   split at hc<;>try (cases hc; done)
   rename_i z n hz hn
   split at hc<;>try (cases hc; done)
   simp only [sI] at hc; subst hc
   simp only [evOp,sI] at he; subst he
   exact ok_alloc hs hp hm (hd rfl) hop hz
 | box e x=>
   simp only [compOp0,hop] at hc
   split at hc<;>try (cases hc; done)
   rename_i x' n hx hn
   simp only [sI] at hc; subst hc
   exact ok_box hs hp hm (hd rfl) hop hx he
 | build t ps=>
   simp only [compOp0,hop] at hc
   split at hc<;>try (cases hc; done)
   · rename_i z fs hz hu
     split at hc<;>try (cases hc; done)
     rename_i hall
     obtain ⟨qs,hq,rfl⟩:=Qk0 hc
     exact .of_calm (calm_buildS hs hp hop hu hall hz hq he) hm
   · rename_i z n e hz hu
     split at hc<;>try (cases hc; done)
     rename_i s hsz
     obtain ⟨qs,hq,rfl⟩:=Qk0 hc
     exact .of_calm (calm_buildA hs hp hop hu hz hsz hq he) hm
 | buildSlice t n ps=>
   simp only [compOp0,hop] at hc
   split at hc<;>try (cases hc; done)
   rename_i e hu
   split at hc<;>try (cases hc; done)
   rename_i s z qs hsz hz hq
   split at hc<;>try (cases hc; done)
   rename_i hh
   split at hc
   · simp only [sI] at hc; subst hc
     exact ok_bslice hs hp hm hop hu hsz hz hq hh.1 hh.2.1 hh.2.2 he
   · simp only [sI] at hc; subst hc
     exact ok_bsliceO hs hp hm hop hu hsz hz hq hh.1 hh.2.1 hh.2.2 he
 | load t x=>
   simp only [compOp0,hop] at hc
   split at hc<;>try (cases hc; done)
   rename_i x' n hx hn
   split at hc<;>try (cases hc; done)
   rename_i hu
   obtain ⟨u,hu⟩:=Option.isSome_iff_exists.1 hu
   simp only [sI] at hc; subst hc
   exact .of_calm (calm_load hs hp hop hn hu hx hmb he hpre) hm
 | store t x v=>
   simp only [compOp0,hop] at hc
   split at hc<;>try (cases hc; done)
   rename_i x' v' n hx hv hn
   simp only [sI] at hc; subst hc
   exact ok_store hs hp hm hop hn hx hv he hpre
 | nilCheck x=>
   simp only [compOp0,hop] at hc
   obtain ⟨x',hx,rfl⟩:=Qk0 hc
   exact .of_calm (calm_nilchk hs hp hop hx he) hm
 | binOp op t x y u=>
   by_cases hl:op= .shl
   · subst hl
     simp only [compOp0,hop] at hc
     split at hc<;>try (cases hc; done)
     obtain ⟨n,x',rfl,h⟩:=calm_shl (r:=r) hs hp hop hc
     exact .of_calm (h he) hm
   by_cases hrr:op= .shr
   · subst hrr
     simp only [compOp0,hop] at hc
     split at hc<;>try (cases hc; done)
     obtain ⟨n,x',rfl,h⟩:=calm_shr (r:=r) hs hp hop hc
     exact .of_calm (h he) hm
   have hc:(match compA x,compA y with
    | some a,some b=>match P.underlying t with
      | some (.slice _)=>if isEq op && isNilC y then some (.eqnil (isNeq op) a) else none
      | some (.int _)=>if isCmp op then some (.cmp op 0 a b) else if isArith op then some (.arith op a b) else none
      | some .bool=>if isEq op then some (.cmp op 1 a b) else none
      | some .string=>if isEq op then some (.cmp op 2 a b) else none
      | some (.struct _)=>if isEq op && !P.eqGuardType P.depth t then (shapeOf P 60 t).map λs=> .eqa (isNeq op) s a b else none
      | _=>none
    | _,_=>none) =some io:=by
    rw [← hc]
    cases op<;>first | exact absurd rfl hl | exact absurd rfl hrr | (simp only [compOp0,hop]; rfl) | simp only [compOp0,hop]
   split at hc<;>try (cases hc; done)
   rename_i x' y' hx hy
   split at hc<;>try (cases hc; done)
   · rename_i e hu
     split at hc<;>try (cases hc; done)
     rename_i heq
     simp only [Bool.and_eq_true] at heq
     simp only [sI] at hc; subst hc
     exact .of_calm (calm_eqnil hs hp hm hop heq.1 hu heq.2 hx he) hm
   · rename_i k hu
     split at hc
     · rename_i hcm
       simp only [sI] at hc; subst hc
       exact .of_calm (calm_cmpI hs hp hop hcm hx hy he) hm
     · split at hc<;>try (cases hc; done)
       rename_i har
       simp only [sI] at hc; subst hc
       exact .of_calm (calm_arith hs hp hop har hx hy he hpre) hm
   · rename_i hu
     split at hc<;>try (cases hc; done)
     rename_i heq
     simp only [sI] at hc; subst hc
     exact .of_calm (calm_cmpB hs hp hop heq hu hx hy he) hm
   · rename_i hu
     split at hc<;>try (cases hc; done)
     rename_i heq
     simp only [sI] at hc; subst hc
     exact .of_calm (calm_cmpS hs hp hop heq hx hy he) hm
   · rename_i fs hu
     split at hc<;>try (cases hc; done)
     rename_i heq
     simp only [Bool.and_eq_true,Bool.not_eq_true'] at heq
     obtain ⟨sh,hsh,rfl⟩:=Qk0 hc
     exact .of_calm (calm_eqa hs hp hop heq.1 hsh (by omega) (by simp [aggP,hu]) heq.2 hx hy rfl he) hm
 | unOp op t x=>
   cases op<;>simp only [compOp0,hop] at hc<;>try (cases hc; done)
   · obtain ⟨x',hx,rfl⟩:=Qk0 hc
     exact .of_calm (calm_neg hs hp hop hx he) hm
   · obtain ⟨x',hx,rfl⟩:=Qk0 hc
     exact .of_calm (calm_not hs hp hop hx he) hm
 | convert s dd x=>
   simp only [compOp0,hop] at hc
   split at hc<;>try (cases hc; done)
   · rename_i x' k k' hx hu1 hu2
     simp only [sI] at hc; subst hc
     exact .of_calm (calm_conv hs hp hop hu1 hu2 hx he) hm
   · rename_i x' e hx hu1 hu2
     split at hc<;>try (cases hc; done)
     rename_i hue
     simp only [sI] at hc; subst hc
     exact .of_calm (calm_b2s hs hp hm hop hu1 hue hu2 hx he hpre) hm
   · rename_i x' e hx hu1 hu2
     split at hc<;>try (cases hc; done)
     rename_i hue
     simp only [sI] at hc; subst hc
     exact ok_s2b hs hp hm hop hu1 hu2 hue hx he hpre
   · split at hc<;>try (cases hc; done)
     split at hc<;>try (cases hc; done)
     simp only [sI] at hc; subst hc
     simp [evOp] at he
 | makeSlice t l c=>
   simp only [compOp0,hop] at hc
   split at hc<;>try (cases hc; done)
   rename_i e hu
   split at hc<;>try (cases hc; done)
   rename_i i z l' c' hi hz hl hcc
   split at hc<;>try (cases hc; done)
   rename_i hsz
   split at hc
   · simp only [sI] at hc; subst hc
     exact ok_mkF hs hp hm hop hu hi hz hsz.1 hsz.2 hl hcc he hpre
   · simp only [sI] at hc; subst hc
     exact ok_mkslice hs hp hm hop hu hi hz hsz.1 hsz.2 hl hcc he hpre
 | slice t x l h m=>
   cases m<;>simp only [compOp0,hop] at hc<;>try (cases hc; done)
   split at hc<;>try (cases hc; done)
   rename_i e hu
   split at hc<;>try (cases hc; done)
   rename_i s x' l' h' hsz hx hl hh
   simp only [sI] at hc; subst hc
   exact ok_sliceQ hs hp hm hop hu hsz hx hl hh he hpre
 | fieldAddr t x f=>
   simp only [compOp0,hop] at hc
   split at hc<;>try (cases hc; done)
   rename_i fs x' hu hx
   split at hc<;>try (cases hc; done)
   rename_i fd hfd
   split at hc<;>try (cases hc; done)
   rename_i s hsz
   split at hc<;>try (cases hc; done)
   rename_i hs0
   simp only [sI] at hc; subst hc
   exact .of_calm (calm_faddr hs hp hop hu hfd hsz hs0 hx he) hm
 | field t x f=>
   simp only [compOp0,hop] at hc
   split at hc<;>try (cases hc; done)
   rename_i fs x' hu hx
   split at hc<;>try (cases hc; done)
   rename_i fd hfd
   split at hc<;>try (cases hc; done)
   rename_i huf
   obtain ⟨u,huf⟩:=Option.isSome_iff_exists.1 huf
   obtain ⟨s,hsz,rfl⟩:=Qk0 hc
   exact .of_calm (calm_fld hs hp hop hu hfd hsz huf hx he) hm
 | index t x i=>
   simp only [compOp0,hop] at hc
   split at hc<;>try (cases hc; done)
   · rename_i x' i' hu hx hi
     simp only [sI] at hc; subst hc
     exact .of_calm (calm_idxS hs hp hop hu hx hi he hpre) hm
   · rename_i n e x' i' hu hx hi
     split at hc<;>try (cases hc; done)
     rename_i hue
     obtain ⟨u,hue⟩:=Option.isSome_iff_exists.1 hue
     obtain ⟨s,hsz,rfl⟩:=Qk0 hc
     exact .of_calm (calm_idxV hs hp hop hu hsz hue hx hi he hpre) hm
 | indexAddr t x i=>
   simp only [compOp0,hop] at hc
   split at hc<;>try (cases hc; done)
   · rename_i e x' i' hu hx hi
     split at hc<;>try (cases hc; done)
     rename_i s z hsz hz
     split at hc<;>try (cases hc; done)
     rename_i hzl
     simp only [sI] at hc; subst hc
     exact .of_calm (ok_iaddrS hs hp hm hop hu hsz hzl hx hi he hpre) hm
   · rename_i n e x' i' hu hx hi
     obtain ⟨s,hsz,rfl⟩:=Qk0 hc
     exact .of_calm (calm_iaddrA hs hp hop hu hsz hx hi he hpre) hm
 | extract x i=>
   simp only [compOp0,hop] at hc
   obtain ⟨x',hx,rfl⟩:=Qk0 hc
   exact .of_calm (calm_extract hs hp hop hx he) hm
 | call c =>
   simp only [compOp0,hop,compCall] at hc
   split at hc<;>try (cases hc; done)
   · rename_i t xs' hcal hxs
     simp only [sI] at hc; subst hc
     simp only [evOp] at he
     split at he<;>try (cases he; done)
     rotate_left
     · rename_i rr _ _ _ vs hvf hvs
       unfold cloV at he
       split at he<;>try (cases he; done)
       rename_i f z es i off hrr
       split at he<;>try (cases he; done)
       rename_i hcon
       have hent:enterable P f=true:=by
        have hcon:f∈valFs P:=by simpa using hcon
        unfold valFs at hcon
        exact (List.mem_filter.1 hcon).2
       unfold enterable at hent
       split at hent<;>try (cases hent; done)
       rename_i fn hfn
       simp only [Bool.and_eq_true,Bool.not_eq_true'] at hent
       have hfv:=av_rep hs hp (show compA (.tmp t) =some (.t t) from rfl) hvf
       obtain ⟨u,hθ,hu⟩:=hm.brep rr _ hrr
       have hev:a.eval (.tmp t) = .func (.func f) #[] #[u]:=by
        generalize a.eval (.tmp t) =v at hfv
        cases hfv with
        | ap _ _ _ _ _ _ h _ _=>rw [← h,hθ]
       unfold tchR at he
       split at he<;>try (cases he; done)
       rename_i pre post v tt hcr
       simp only [sI] at he; subst he
       have hok:=ok_enter (r:=⟨pre,post,v,[],none,tt⟩) (d:=d) hm (run_callclo hs hp hop hcal hev hfn hent.1 hent.2) (xs:=vs ++ [.ep z es i off]) (by
        have h1:=Zf0 hs hp hxs hvs
        have h2:=hu.th_clean0 rfl θ
        refine ⟨by simpa using h1.len,λj x1 v hc hv=>?_⟩
        have hl:(c.args.toList.map a.eval).length=vs.length:=h1.len
        have e:(c.args.map a.eval ++ #[u]).toList=c.args.toList.map a.eval ++ [u]:=by simp
        rw [e] at hv
        by_cases hj:j < vs.length
        · rw [List.getElem?_append_left hj] at hc
          rw [List.getElem?_append_left (by omega)] at hv
          exact h1.rep j x1 v hc hv
        · rw [List.getElem?_append_right (by omega)] at hc
          rw [List.getElem?_append_right (by omega),hl] at hv
          have:j - vs.length=0:=by
           by_cases h0:j - vs.length=0
           · exact h0
           · rw [List.getElem?_eq_none (by simp; omega)] at hc; cases hc
          rw [this] at hc hv
          simp only [List.getElem?_cons_zero,sI] at hc hv
          subst hc; subst hv
          exact h2) (λC' h=>hΦ _ _ h) hcr hpre
       exact λK Q hK=>hok K Q λv Z' w' θ' ho=>hK v Z' w' θ' (Out.tch (r:=⟨pre,post,_,[],none,tt⟩) (r':=⟨pre,post,_,[],none,rr::tt⟩) rfl rfl rfl rfl ho)
     rename_i f vs hvf hvs
     split at he<;>try (cases he; done)
     rename_i hcon
     have hent:enterable P f=true:=by
      have hcon:f∈valFs P:=by simpa using hcon
      unfold valFs at hcon
      exact (List.mem_filter.1 hcon).2
     unfold enterable at hent
     split at hent<;>try (cases hent; done)
     rename_i fn hfn
     simp only [Bool.and_eq_true,Bool.not_eq_true'] at hent
     have hfv:=av_rep hs hp (show compA (.tmp t) =some (.t t) from rfl) hvf
     have hev:a.eval (.tmp t) = .func (.func f) #[] #[]:=by
      generalize a.eval (.tmp t) =v at hfv
      cases hfv; rfl
     refine ok_enter hm (run_callv hop hcal hev hfn hent.1 hent.2) (xs:=vs) ?_ (λC' h=>hΦ _ _ h) he hpre
     have:=Zf0 hs hp hxs hvs
     simpa using this
   · rename_i f xs' hcal hxs
     split at hc<;>try (cases hc; done)
     rename_i fn hfn
     split at hc<;>try (cases hc; done)
     rename_i hcond
     simp only [sI] at hc; subst hc
     simp only [evOp] at he
     split at he<;>try (cases he; done)
     rename_i vs hvs
     refine ok_enterE hm (run_call hop hcal hfn hcond.1 hcond.2) (xs:=vs) ?_ (λC' h=>hΦ _ _ h) he hpre
     have:=Zf0 hs hp hxs hvs
     simpa using this
   · rename_i x' hcal hxs
     obtain ⟨x,hargs,hx⟩:∃ x,c.args= #[x]∧compA x=some x':=by
      generalize hl:c.args.toList=l at hxs
      match l,hxs with
      | [x],hxs=>
        simp only [compAs] at hxs
        split at hxs<;>try (cases hxs; done)
        rename_i b bs hb hbs
        simp only [sI] at hxs
        simp at hbs hxs
        obtain ⟨rfl,_⟩:=hxs
        exact ⟨x,by apply Array.ext'; simpa using hl,hb⟩
      | [],hxs=>simp [compAs] at hxs
      | x::y::l,hxs=>
        simp only [compAs] at hxs
        split at hxs<;>try (cases hxs; done)
        rename_i b bs hb hbs
        split at hbs<;>simp at hbs
        subst hbs
        simp at hxs
     split at hc<;>try (cases hc; done)
     · rename_i e hu
       rw [Option.bind_eq_some_iff] at hu
       obtain ⟨t,ht,hu⟩:=hu
       simp only [sI] at hc; subst hc
       exact ok_len hs hp hm hop hcal hargs ht hx (λ_=>⟨e,hu⟩) (λh=>calm_len0 hs hp hop hcal hargs ht hu hx h) he
     · rename_i hu
       rw [Option.bind_eq_some_iff] at hu
       obtain ⟨t,ht,hu⟩:=hu
       simp only [sI] at hc; subst hc
       exact ok_len hs hp hm hop hcal hargs ht hx (λh=>by cases h) (λh=>calm_len1 hs hp hop hcal hargs ht hu hx h) he
   · rename_i xs' hcal hxs
     simp only [sI] at hc; subst hc
     exact .of_calm (calm_minmax (mx:=false) hs hp hop hcal hxs he) hm
   · rename_i xs' hcal hxs
     simp only [sI] at hc; subst hc
     exact .of_calm (calm_minmax (mx:=true) hs hp hop hcal hxs he) hm
   · rename_i x1 y1 hcal hxs
     split at hc<;>try (cases hc; done)
     · rename_i e e2 hu1 hu2
       split at hc<;>try (cases hc; done)
       rename_i i hi
       split at hc<;>try (cases hc; done)
       rename_i z hz
       split at hc<;>try (cases hc; done)
       rename_i hcond
       split at hc
       · simp only [sI] at hc; subst hc
         exact ok_appD hs hp hm hop hcal hxs hu1 hi hz hcond (hd rfl) he hpre
       · simp only [sI] at hc; subst hc
         exact ok_append hs hp hm hop hcal hxs hu1 hi hz hcond (hd rfl) he hpre
     · rename_i e e2 hu1 hu2
       split at hc<;>try (cases hc; done)
       rename_i i hi
       split at hc<;>try (cases hc; done)
       rename_i z hz
       split at hc<;>try (cases hc; done)
       rename_i hcond
       simp only [sI] at hc; subst hc
       exact ok_appZ hs hp hm hop hcal hxs hu1 hi hz hcond.1 hu2 (hd rfl) he hpre
   · rename_i x1 y1 hcal hxs
     split at hc<;>try (cases hc; done)
     rename_i e hu
     split at hc<;>try (cases hc; done)
     rename_i h2
     obtain ⟨s,hsz,rfl⟩:=Qk0 hc
     exact ok_copy hs hp hm hop hcal hxs hu h2 hsz he hpre
 | makeMap t rs=>
   cases rs<;>simp only [compOp0,hop] at hc<;>try (cases hc; done)
   obtain ⟨n,hn,rfl⟩:=Qk0 hc
   simp only [evOp,sI] at he; subst he
   exact ok_mkmap hm hop n
 | lookup t x i ok=>
   cases ok<;>simp only [compOp0,hop] at hc<;>try (cases hc; done)
   split at hc<;>try (cases hc; done)
   rename_i n x' i' hn hx hi
   simp only [sI] at hc; subst hc
   exact .of_calm (ok_mlook hs hp hm hop hn hx hi he) hm
 | mapUpdate t x i v=>
   simp only [compOp0,hop] at hc
   split at hc<;>try (cases hc; done)
   rename_i n x' i' hn hx hi hv
   simp only [sI] at hc; subst hc
   exact ok_mput hs hp hm hop hn hv hx hi he hpre
 | makeFunc fn fi ca=>
   cases fn<;>simp only [compOp0,hop] at hc<;>try (cases hc; done)
   split at hc<;>try (cases hc; done)
   rename_i x h1 h2
   obtain ⟨x',hx,rfl⟩:=Qk0 hc
   exact ok_mkclo hs hp hm hop h1 h2 hx he
 | _=>simp [compOp0,hop] at hc
theorem op_sound (hΦ:∀ f C,Φ f=some C→Sound P f C) {o:Oper} {io:IOp}(hc:compOp P dr own o=some io)
 (hs:∀ k,SRep Z w θ a.tmps (σ.s k) (a.tmps.getD k undef)) (hp:pathT a.tmps p) (hm:Mem X Z w θ σ.m) {d:Nat} (hd:needD io=true→d+1≠0) {r:Res}
 (he:evOp Φ io d p σ=some r) (hpre:∀ q∈r.pre,q):OpOK P X Z w θ σ.m a o d r:=by
 unfold compOp at hc
 split at hc
 · rename_i i hi
   simp only [sI] at hc; subst hc
   exact op_sound0 hΦ hi hs hp hm hd he hpre
 · exact pv_sound hs hp hc hm he hpre
end
end Go.Ev
