/- A part of the proof; no condition. -/
import Derived.Test.YthgmdkokaflgjaaGreatDoorQC
import Derived.Orders
set_option linter.unusedSimpArgs false
set_option linter.unusedVariables false
set_option linter.unusedSectionVars false
namespace Go.Ev
open Go Go.RowKit
def isCall:IOp→Bool
 | .call _ _=>true
 | .mkstr _=>true
 | _=>false
theorem Zt0 {α:Type} {x:Option α} {f:α→IOp} {io:IOp}(h:x.map f=some io)(hf:∀ a,isCall (f a) =false):isCall io=false:=by
 obtain ⟨a,_,rfl⟩:=Option.map_eq_some_iff.1 h
 exact hf a
theorem compShift_isCall {l:Bool} {x y:Operand} {io:IOp}(h:compShift l x y=some io):isCall io=false:=by
 unfold compShift at h
 split at h
 · cases l<;>exact Zt0 h λ_=>rfl
 · cases h
theorem compPV_kind {P:Program} {o:Oper} {io:IOp}(h:compPV P o=some io):(∃ k xs,io= .pv k xs)∨(∃ z ps,io= .build z ps)∨io= .mkmap 9:=by
 unfold compPV at h
 repeat' (first | (cases h; done) | (simp only [sI] at h; subst h; exact .inl ⟨_,_,rfl⟩) | (simp only [sI] at h; subst h; exact .inr (.inr rfl)) | (obtain ⟨_,_,rfl⟩:=Option.map_eq_some_iff.1 h; exact .inr (.inl ⟨_,_,rfl⟩)) | split at h)
theorem comp_isCall0 {P:Program} {dr own:Bool} {o:Oper} {io:IOp}(h:compOp0 P dr own o=some io)(hc:isCall io=true):
 (∃ c,o.op= .call c∧compCall P dr c=some io)∨(∃ t e x x',o.op= .convert t t x∧P.underlying t=some (.slice e)∧P.underlying e=some (.int .u8)∧compA x=some x'∧io= .mkstr x'):=by
 have no:isCall io=false→False:=λh=>by rw [h] at hc; cases hc
 cases hop:o.op
 case call c=>simp only [compOp0,hop] at h; exact .inl ⟨c,rfl,h⟩
 case convert s d x=>
  simp only [compOp0,hop] at h
  split at h<;>try (cases h; done)
  · simp only [sI] at h; subst h; cases hc
  · split at h<;>simp at h; subst h; cases hc
  · split at h<;>simp at h; subst h; cases hc
  · rename_i x' e0 e hx h1 h2
    split at h<;>try (cases h; done)
    rename_i hue
    split at h<;>try (cases h; done)
    rename_i hsd
    have hsd:s=d:=by simpa using hsd
    subst hsd
    simp only [sI] at h; subst h
    exact .inr ⟨s,e,x,x',rfl,h2,hue,hx,rfl⟩
 case binOp op t x y u=>
  exfalso
  cases op<;>simp only [compOp0,hop] at h
  all_goals first
   | (split at h<;>try (cases h; done)
      exact no (compShift_isCall h))
   | (repeat' (first | (cases h; done) | (simp only [sI] at h; subst h; cases hc; done) | (exact no (Zt0 h λ_=>rfl)) | split at h))
 case unOp op t x=>
  exfalso
  cases op<;>simp only [compOp0,hop] at h<;>first | (cases h; done) | exact no (Zt0 h λ_=>rfl)
 case slice t x l u m=>
  exfalso
  cases m<;>simp only [compOp0,hop] at h
  · repeat' (first | (cases h; done) | (simp only [sI] at h; subst h; cases hc; done) | split at h)
  · cases h
 case makeMap t rs=>
  exfalso
  cases rs<;>simp only [compOp0,hop] at h
  · exact no (Zt0 h λ_=>rfl)
  · cases h
 case lookup t x i ok=>
  exfalso
  cases ok<;>simp only [compOp0,hop] at h
  · split at h<;>try (cases h; done)
    simp only [sI] at h; subst h; cases hc
  · cases h
 case makeFunc fn fi ca=>
  exfalso
  cases fn<;>simp only [compOp0,hop] at h<;>try (cases h; done)
  split at h<;>try (cases h; done)
  exact no (Zt0 h λ_=>rfl)
 all_goals exfalso
 all_goals simp only [compOp0,hop] at h
 all_goals (repeat' (first | (cases h; done) | (simp only [sI] at h; subst h; cases hc; done) | (exact no (Zt0 h λ_=>rfl)) | split at h))
section
variable {P:Program} {dr own:Bool} {X:Cx} {Φ:Nat→Option Ctr} {N:Nat}
theorem comp_isCall {P:Program} {dr own:Bool} {o:Oper} {io:IOp}(h:compOp P dr own o=some io)(hc:isCall io=true):
 (∃ c,o.op= .call c∧compCall P dr c=some io)∨(∃ t e x x',o.op= .convert t t x∧P.underlying t=some (.slice e)∧P.underlying e=some (.int .u8)∧compA x=some x'∧io= .mkstr x'):=by
 unfold compOp at h
 split at h
 · rename_i i hi
   simp only [sI] at h; subst h
   exact comp_isCall0 hi hc
 · rcases compPV_kind h with ⟨k,xs,rfl⟩ | ⟨z,ps,rfl⟩ | rfl<;>cases hc
theorem wanted_iff {ops:Array Oper} {o:Oper} {tm:Array Value} {j:Nat} {b:Bool} {s:Nat}(hg:o.guard=some (j,b))(hj:(ops[j]?).bind (·.dst) =some s):Region.wanted o (yielded ops tm) =true↔tm[s]? =some (.bool b):=by
 unfold Region.wanted yielded
 rw [hg]
 simp only [hj,Option.bind_some]
 cases h:tm[s]? with
 | none=>simp
 | some v=>cases v<;>simp
theorem opG_sound (hΦ:∀ f C,Φ f=some C→Sound P f C) {G:Prop} {Z:Nat→Prop} {w:World} {θ:Nat→Value} {W:List Nat} {σ:St} {a:Act} {ops:Array Oper} {o:Oper} {io:IOp} {g:Option (Nat×Bool)} {af:List Nat} {r:Res}
 (inv:Inv X N G Z w θ W σ a.tmps) (hc:compOp P dr own o=some io) (hg:compGuard ops o=some g)
 (hgW:∀ s b,g=some (s,b)→s∈W∧G) (hdst:(o.dst=none∧g=none∧isSt io=true)∨∃ d,o.dst=some d∧d∉W∧(needD io=true→d+1≠0)∧d < N)
 (he:evG Φ ⟨o.dst,io,g,af⟩ σ=some r) (hpre:∀ q∈r.pre,q) (K:Act→World→Prop) (Q:Exit→Act→World→Prop)
 (hK:∀ v Z' w' θ',Goes Z w Z' w'→(∀ q∈r.post,q)→Inv X N G Z' w' θ' (match o.dst with | some d=>d::W | none=>W) (σ.put o.dst r) (a.put o.dst v).tmps→K (a.put o.dst v) w'):
 if Region.wanted o (yielded ops a.tmps) then o.wp P a w K Q else K (a.put o.dst undef) w:=by
 have hda:needD io=true→o.dst.getD 0+1≠0:=λ_=>Nat.succ_ne_zero _
 cases hog:o.guard with
 | none=>
   have hg':g=none:=by
    unfold compGuard at hg; rw [hog] at hg; simpa using hg.symm
   subst hg'
   rw [if_pos (by simp [Region.wanted,hog])]
   simp only [evG] at he
   have hok:=op_sound (P:=P) (X:=X) hΦ hc inv.slot (p:=[]) (by intro q hq; cases hq) inv.mem hda he hpre
   refine hok K Q λv Z' w' θ' ho=>hK v Z' w' θ' ho.goes ho.post ?_
   rcases hdst with ⟨hd,_,hst⟩ | ⟨d,hd,hdW,hd0,hdN⟩
   · have:=inv.put0 (st_new hst he) ho
     simpa [hd,Act.put] using this
   · rw [hd] at ho ⊢
     simp only [Option.getD_some] at ho
     exact inv.put hdW hdN ho
 | some jb =>
   obtain ⟨j,b⟩:=jb
   have hg':∃ s,(ops[j]?).bind (·.dst) =some s∧g=some (s,b):=by
    unfold compGuard at hg
    rw [hog] at hg
    simp only at hg
    split at hg
    · rename_i s hs
      exact ⟨s,hs,by simpa using hg.symm⟩
    · cases hg
   obtain ⟨s,hs,rfl⟩:=hg'
   obtain ⟨hsW,hGG⟩:=hgW s b rfl
   have hwant:=wanted_iff (ops:=ops) (o:=o) (tm:=a.tmps) hog hs
   simp only [evG] at he
   split at he<;>try (cases he; done)
   rename_i p hpg
   obtain ⟨pre,post,v,us,t,us',hop,hmer,rfl⟩:=guardR_some he
   have hpW:=path_mem inv hsW hpg
   have hpb:=pathB_of (s:=σ.s) (λe he=>(hpW e he).2)
   rcases hdst with ⟨hd,hgn,_⟩ | ⟨d,hd,hdW,hd0,hdN⟩
   · cases hgn
   split
   · rename_i hw
     have hb:=hwant.1 hw
     have hpt:=path_yes inv.slot hpg hb
     have hpp:=pathP_of inv.slot (λe he=>(hpW e he).2) hpt
     have hok:=op_sound (P:=P) (X:=X) hΦ hc inv.slot hpt inv.mem hda hop (λq hq=>guardL_mem hq hpre hpp)
     refine hok K Q λv' Z' w' θ' ho=>hK v' Z' w' θ' ho.goes (by simp) ?_
     have hth:θ'=θ:=funext λk=>ho.th k (λ_ _ e=>by cases e)
     subst hth
     have hm:Mem X Z' w' θ' (updL σ.m us'):=by
      rcases hmer with ⟨rfl,rfl⟩ | ⟨_,hmer⟩
      · exact ho.mem
      · have hlen:=evOp_ups hop
        rcases mergeU_len hmer hlen with ⟨rfl,rfl⟩ | ⟨r0,b0,rfl⟩
        · exact ho.mem
        · obtain ⟨cs,cs',cs'',rfl,h1,h2,rfl⟩:=mergeU_one hmer
          refine ho.mem.swap (λr h=>?_) (λr blk h=>?_)
          · simp only [newM,updL,updM] at h ⊢; split<;>simp_all
          · simp only [updL,updM] at h
            by_cases hr:r=r0
            · subst hr
              simp only [if_true,liveB,sI] at h; subst h
              obtain ⟨b',T,vs,e1,e2,e3,e4⟩:=ho.mem.brep r (.cells cs) (by simp [newM,updL,updM])
              exact ⟨b',T,vs,e1,e2,e3,(Zz0 h2).1 (hpb.2 hpp) e4⟩
            · simp only [hr,if_false] at h
              exact ho.mem.brep r blk (by simp [newM,updL,updM,hr,h])
     rw [hd]
     exact inv.putG hGG hdW hdN hpW ho.goes hm (λ_=>ho.val) (λhn=>absurd hpt hn)
   · rename_i hw
     have hnb:¬ a.tmps[s]? =some (.bool b):=λh=>hw (hwant.2 h)
     have hnp:¬ pathT a.tmps p:=λh=>hnb (path_last hpg h)
     have hm :Mem X Z w θ (updL σ.m us'):=by
      rcases hmer with ⟨rfl,rfl⟩ | ⟨⟨e,rfl⟩,hmer⟩
      · exact inv.mem
      · have hlen:=evOp_ups hop
        have hse:e=(s,b):=by
         unfold pathG at hpg
         split at hpg
         · simp only [sI] at hpg; simpa using hpg.symm
         · simp only [sI] at hpg
           have:=congrArg List.getLast? hpg
           simpa using this.symm
         · cases hpg
        subst hse
        have hfalse:pathB σ.s [(s,b)] =false:=by
         cases hB:pathB σ.s [(s,b)] with
         | false=>rfl
         | true=>
           have hP:=hpb.1 hB
           rcases pathT_of_P inv.slot hP.1 with h | ⟨q,h1,h2,h3⟩
           · exact absurd h hnb
           · rw [h1] at hpg
             simp only [pathG,sI] at hpg
             have hq:q= []:=by
              cases q with
              | nil=>rfl
              | cons x xs=>simp at hpg
             subst hq
             exact absurd (by intro e he; cases he) h2
        rw [hfalse] at hmer
        rcases mergeU_len hmer hlen with ⟨rfl,rfl⟩ | ⟨r0,b0,rfl⟩
        · exact inv.mem
        · obtain ⟨cs,cs',cs'',rfl,h1,h2,rfl⟩:=mergeU_one hmer
          refine inv.mem.swap (λr h=>?_) (λr blk h=>?_)
          · simp only [updL,updM] at h
            by_cases hr:r=r0
            · subst hr; rw [h1]; rfl
            · simpa [hr] using h
          · simp only [updL,updM] at h
            by_cases hr:r=r0
            · subst hr
              simp only [if_true,liveB,sI] at h; subst h
              obtain ⟨b',T,vs,e1,e2,e3,e4⟩:=inv.mem.brep r (.cells cs') h1
              exact ⟨b',T,vs,e1,e2,e3,(Zz0 h2).2 rfl e4⟩
            · simp only [hr,if_false] at h
              exact inv.mem.brep r blk h
     refine hK undef Z w θ (.refl Z w) (by simp) ?_
     rw [hd]
     exact inv.putG hGG hdW hdN hpW (.refl Z w) hm (λh=>absurd h hnp) (λ_=>rfl)
theorem ops_sound (hΦ:∀ f C,Φ f=some C→Sound P f C) {G:Prop} {ops:Array Oper} {Q:Exit→Act→World→Prop} {K:St→Prop}:
 ∀ (l:List Oper) (rl:List RO) (W:List Nat),compOps P dr ops l=some rl→okReg N W rl=true→(∀ o∈rl,o.guard.isSome=true→G)→∀ (σ:St) (a:Act) (Z:Nat→Prop) (w:World) (θ:Nat→Value),
   Inv X N G Z w θ W σ a.tmps→a.defers= []→evOps Φ rl σ K→
   (∀ (σ':St) (a':Act) (Z':Nat→Prop) (w':World) (θ':Nat→Value) (W':List Nat),K σ'→Inv X N G Z' w' θ' W' σ' a'.tmps→a'.defers= []→Q .normal a' w')→wpList P ops Q l a w
 | [],rl,W,hc,hok,hG,σ,a,Z,w,θ,inv,hd,hev,hQ=>by
   simp [compOps] at hc; subst hc
   exact hQ σ a Z w θ W hev inv hd
 | o :: l, rl,W,hc,hok,hG,σ,a,Z,w,θ,inv,hd,hev,hQ=>by
   unfold compOps at hc
   split at hc<;>try (cases hc; done)
   rename_i io g rl' h1 h2 h3
   simp only [sI] at hc; subst hc
   unfold okReg at hok
   simp only [Bool.and_eq_true] at hok
   obtain ⟨hgok,hdok⟩:=hok
   have hdst:(o.dst=none∧g=none∧isSt io=true∧okReg N W rl'=true)∨∃ d,o.dst=some d∧d∉W∧(needD io=true→d+1≠0)∧d < N∧okReg N (d::W) rl'=true:=by
    cases hdd:o.dst with
    | none=>
      rw [hdd] at hdok
      simp only [Bool.and_eq_true] at hdok
      obtain ⟨ha,hb⟩:=hdok
      left
      cases io with
      | store n x v=>
        cases g with
        | none=>exact ⟨rfl,rfl,rfl,hb⟩
        | some q=>cases ha
      | mput n x i=>
        cases g with
        | none=>exact ⟨rfl,rfl,rfl,hb⟩
        | some q=>cases ha
      | pv k xs=>
        cases k with
        | bad=>
          cases g with
          | none=>exact ⟨rfl,rfl,rfl,hb⟩
          | some q=>cases ha
        | _=>exfalso; revert ha; cases g<;>simp
      | _=>cases ha
    | some d=>
      rw [hdd] at hdok
      simp only [Bool.and_eq_true,decide_eq_true_eq,Bool.not_eq_true'] at hdok
      right
      exact ⟨d,rfl,by have:=hdok.1.1.1; simpa using this,λhn=>by
       have:=hdok.1.1.2
       simp only [hn,Bool.not_true,Bool.false_or,decide_eq_true_eq] at this
       exact this,hdok.1.2,hdok.2⟩
   have hgW:∀ s b,g=some (s,b)→s∈W∧G:=by
    rintro s b rfl
    simp only at hgok
    exact ⟨by simpa using hgok,hG _ (List.mem_cons_self ..) rfl⟩
   unfold evOps at hev
   split at hev
   ·
    rename_i d x hso
    unfold strOf at hso
    split at hso<;>try (cases hso; done)
    rename_i d' x' af he'
    simp only [sI,Prod.mk.injEq] at hso
    obtain ⟨rfl,rfl⟩:=hso
    simp only [RO.mk.injEq] at he'
    obtain ⟨hod,rfl,rfl,_⟩:=he'
    rcases hdst with ⟨e1,_⟩ | ⟨d,e1,e2,e3,e4,e5⟩
    · rw [hod] at e1; cases e1
    · rw [hod] at e1
      simp only [sI] at e1; subst e1
      have hop:=(comp_isCall h1 rfl).resolve_left (by
       rintro ⟨c,ho,hcc⟩
       unfold compCall at hcc
       repeat' (first | (cases hcc; done) | (simp only [sI] at hcc; cases hcc; done) | (obtain ⟨_,_,hcc⟩:=Qk0 hcc; cases hcc; done) | split at hcc))
      obtain ⟨t,e,x,x1,ho,hu,hue,hx,hio⟩:=hop
      cases hio
      have hgn:o.guard=none:=by
       unfold compGuard at h2
       split at h2
       · assumption
       · split at h2<;>cases h2
      refine wpList_step λK' hK'=>?_
      rw [if_pos (by simp [Region.wanted,hgn])]
      refine mkS_sound ho hu hue inv hod e2 e4 hx hev λv Z' w' θ' σ' hk hinv=>?_
      refine hK' _ _ (ops_sound hΦ l rl' _ h3 e5 (λo' ho'=>hG o' (List.mem_cons_of_mem _ ho')) _ _ Z' w' θ' hinv ?_ hk hQ)
      exact hd
   · split at hev
     · rename_i d xs C hso
       obtain ⟨f,hod,rfl,rfl,hXC⟩:=extOf_inv hso
       rcases hdst with ⟨e1,_⟩ | ⟨d,e1,e2,e3,e4,e5⟩
       · rw [hod] at e1; cases e1
       · rw [hod] at e1
         simp only [sI] at e1; subst e1
         have hop:=(comp_isCall h1 rfl).resolve_right (by rintro ⟨_,_,_,_,_,_,_,_,h⟩; cases h)
         obtain ⟨c,ho,hcc⟩:=hop
         have hcal:c.callee= .value (.func f)∧compAs c.args.toList=some xs∧∃ fn,P.funcs[f]? =some fn∧fn.body.isSome=true∧(fn.name == "runtime.NumGoroutine") =false:=by
          unfold compCall at hcc
          split at hcc
          · simp only [sI] at hcc; cases hcc
          · rename_i f' xs1 h7 h8
            split at hcc<;>try (cases hcc; done)
            rename_i fn hfn
            split at hcc<;>try (cases hcc; done)
            rename_i hcond
            simp only [sI] at hcc; cases hcc
            exact ⟨h7,h8,fn,hfn,hcond.1,hcond.2⟩
          all_goals exfalso
          all_goals (repeat' (first | (cases hcc; done) | (simp only [sI] at hcc; cases hcc; done) | (obtain ⟨_,_,hcc⟩:=Qk0 hcc; cases hcc; done) | split at hcc))
         obtain ⟨hcv,hargs,fn',hfn,hb1,hb2⟩:=hcal
         have hgn:o.guard=none:=by
          unfold compGuard at h2
          split at h2
          · assumption
          · split at h2<;>cases h2
         refine wpList_step λK' hK'=>?_
         rw [if_pos (by simp [Region.wanted,hgn])]
         refine evXK_sound hΦ hXC inv hod e2 e4 ho hcv hargs hfn hb1 hb2 hev λv Z' w' θ' σ' hk hinv=>?_
         refine hK' _ _ (ops_sound hΦ l rl' _ h3 e5 (λo' ho'=>hG o' (List.mem_cons_of_mem _ ho')) _ _ Z' w' θ' hinv ?_ hk hQ)
         exact hd
     · split at hev
       · exact hev.elim
       · rename_i r hr
         obtain ⟨hpre,hev⟩:=askL_mem hev
         refine wpList_step λK' hK'=>?_
         obtain ⟨Z1,hz1,inv1⟩:=inv.frzLAny (preF σ io)
         refine opG_sound hΦ (X:=X) (N:=N) inv1 h1 h2 hgW (hdst.imp (λh=>⟨h.1,h.2.1,h.2.2.1⟩) λ⟨d,e1,e2,e3,e4,_⟩=>⟨d,e1,e2,e3,e4⟩) hr hpre K' Q ?_
         intro v Z' w' θ' hg hpost hinv
         have hk:=knowL_mem hev hpost
         refine hK' _ _ (ops_sound hΦ l rl' _ h3 ?_ (λo' ho'=>hG o' (List.mem_cons_of_mem _ ho')) _ _ Z' w' θ' hinv ?_ hk hQ)
         · rcases hdst with ⟨e1,_,_,e2⟩ | ⟨d,e1,_,_,_,e2⟩
           · rw [e1]; exact e2
           · rw [e1]; exact e2
         · cases o.dst<;>exact hd
theorem comp_pick0 {o:Oper} {c x y:A}(h:compOp0 P dr own o=some (.pick c x y)):∃ c0 x0 y0,o.op= .pick c0 x0 y0∧compA c0=some c∧compA x0=some x∧compA y0=some y:=by
 cases hop:o.op<;>simp only [compOp0,hop] at h
 case pick c0 x0 y0=>
  split at h<;>try (cases h; done)
  rename_i c1 x1 y1 e1 e2 e3
  simp only [sI,IOp.pick.injEq] at h
  obtain ⟨rfl,rfl,rfl⟩:=h
  exact ⟨c0,x0,y0,rfl,e1,e2,e3⟩
 all_goals exfalso
 all_goals (repeat' (first | contradiction | (cases h; done) | (simp only [sI] at h; cases h; done) | (obtain ⟨_,_,h⟩:=Qk0 h; cases h; done) | split at h | unfold compCall at h | unfold compShift at h))
theorem comp_pick {o:Oper} {c x y:A}(h:compOp P dr own o=some (.pick c x y)):∃ c0 x0 y0,o.op= .pick c0 x0 y0∧compA c0=some c∧compA x0=some x∧compA y0=some y:=by
 unfold compOp at h
 split at h
 · rename_i i hi
   simp only [sI] at h; subst h
   exact comp_pick0 hi
 · rcases compPV_kind h with ⟨k,xs,e⟩ | ⟨z,ps,e⟩ | e<;>cases e
theorem op1_sound (hΦ:∀ f C,Φ f=some C→Sound P f C) {Z:Nat→Prop} {w:World} {θ:Nat→Value} {σ:St} {a:Act} {o:Oper} {io:IOp} {af:List Nat}
 (inv:Inv X N False Z w θ [] σ a.tmps) (hc:compOp P dr own o=some io)
 (hdst:(o.dst=none∧isSt io=true)∨∃ d,o.dst=some d∧d < N)
 {K:St→Prop} (hev:evOps Φ [⟨o.dst,io,none,af⟩] σ K) {K':Act→World→Prop} {Q:Exit→Act→World→Prop}
 (hK:∀ (v:Value) (σ':St) (Z':Nat→Prop) (w':World) (θ':Nat→Value),K σ'→Inv X N False Z' w' θ' [] σ' (a.put o.dst v).tmps→K' (a.put o.dst v) w'):o.wp P a w K' Q:=by
 have re:∀ {Z':Nat→Prop} {w':World} {θ':Nat→Value} {W:List Nat} {σ':St} {tm:Array Value},Inv X N False Z' w' θ' W σ' tm→Inv X N False Z' w' θ' [] σ' tm:=by
  intro Z' w' θ' W σ' tm h
  exact ⟨h.slot,h.mem,λk q y e=>absurd e ((h.nog.resolve_left id) k q y),h.nog,h.size⟩
 unfold evOps at hev
 split at hev
 · rename_i d x hso
   unfold strOf at hso
   split at hso<;>try (cases hso; done)
   rename_i d' x' af' he'
   simp only [sI,Prod.mk.injEq] at hso
   obtain ⟨rfl,rfl⟩:=hso
   simp only [RO.mk.injEq] at he'
   obtain ⟨hod,rfl,_,_⟩:=he'
   rcases hdst with ⟨e1,_⟩ | ⟨d,e1,e4⟩
   · rw [hod] at e1; cases e1
   · rw [hod] at e1
     simp only [sI] at e1; subst e1
     have hop:=(comp_isCall hc rfl).resolve_left (by
      rintro ⟨c,ho,hcc⟩
      unfold compCall at hcc
      repeat' (first | (cases hcc; done) | (simp only [sI] at hcc; cases hcc; done) | (obtain ⟨_,_,hcc⟩:=Qk0 hcc; cases hcc; done) | split at hcc))
     obtain ⟨t,e,x,x1,ho,hu,hue,hx,hio⟩:=hop
     cases hio
     refine mkS_sound ho hu hue inv hod (by simp) e4 hx hev λv Z' w' θ' σ' hk hinv=>?_
     have:=hK v σ' Z' w' θ' (by simpa only [evOps] using hk) (by rw [hod]; exact re hinv)
     rw [hod] at this; exact this
 · split at hev
   · rename_i d xs C hso
     obtain ⟨f,hod,rfl,_,hXC⟩:=extOf_inv hso
     rcases hdst with ⟨e1,_⟩ | ⟨d,e1,e4⟩
     · rw [hod] at e1; cases e1
     · rw [hod] at e1
       simp only [sI] at e1; subst e1
       have hop:=(comp_isCall hc rfl).resolve_right (by rintro ⟨_,_,_,_,_,_,_,_,h⟩; cases h)
       obtain ⟨c,ho,hcc⟩:=hop
       have hcal:c.callee= .value (.func f)∧compAs c.args.toList=some xs∧∃ fn,P.funcs[f]? =some fn∧fn.body.isSome=true∧(fn.name == "runtime.NumGoroutine") =false:=by
        unfold compCall at hcc
        split at hcc
        · simp only [sI] at hcc; cases hcc
        · rename_i f' xs1 h7 h8
          split at hcc<;>try (cases hcc; done)
          rename_i fn hfn
          split at hcc<;>try (cases hcc; done)
          rename_i hcond
          simp only [sI] at hcc; cases hcc
          exact ⟨h7,h8,fn,hfn,hcond.1,hcond.2⟩
        all_goals exfalso
        all_goals (repeat' (first | (cases hcc; done) | (simp only [sI] at hcc; cases hcc; done) | (obtain ⟨_,_,hcc⟩:=Qk0 hcc; cases hcc; done) | split at hcc))
       obtain ⟨hcv,hargs,fn',hfn,hb1,hb2⟩:=hcal
       refine evXK_sound hΦ hXC inv hod (by simp) e4 ho hcv hargs hfn hb1 hb2 hev λv Z' w' θ' σ' hk hinv=>?_
       have:=hK v σ' Z' w' θ' (by simpa only [evOps] using hk) (by rw [hod]; exact re hinv)
       rw [hod] at this; exact this
   · split at hev
     · exact hev.elim
     · rename_i r hr
       obtain ⟨hpre,hev⟩:=askL_mem hev
       obtain ⟨Z1,hz1,inv1⟩:=inv.frzLAny (preF σ io)
       simp only [evG] at hr
       have hok:=op_sound (P:=P) (X:=X) hΦ hc inv1.slot (p:=[]) (by intro q hq; cases hq) inv1.mem (λ_=>Nat.succ_ne_zero _) hr hpre
       refine hok K' Q λv Z' w' θ' ho=>?_
       have hk:=knowL_mem hev ho.post
       simp only [evOps] at hk
       refine hK v _ Z' w' θ' hk ?_
       rcases hdst with ⟨hd,hst⟩ | ⟨d,hd,hdN⟩
       · have:=inv1.put0 (st_new hst hr) ho
         simpa [hd,Act.put] using this
       · rw [hd] at ho ⊢
         simp only [Option.getD_some] at ho
         exact re (inv1.put (by simp) hdN ho)
theorem opsS_sound (hΦ:∀ f C,Φ f=some C→Sound P f C) {ops:Array Oper} {Q:Exit→Act→World→Prop} {K:St→Prop}:
 ∀ (l:List Oper) (rl:List RO) (W:List Nat),compOps P dr ops l=some rl→okReg N W rl=true→∀ (σ:St) (a:Act) (Z:Nat→Prop) (w:World) (θ:Nat→Value),
   Inv X N False Z w θ [] σ a.tmps→a.defers= []→evOpsS Φ rl σ K→
   (∀ (σ':St) (a':Act) (Z':Nat→Prop) (w':World) (θ':Nat→Value),K σ'→Inv X N False Z' w' θ' [] σ' a'.tmps→a'.defers= []→Q .normal a' w')→wpList P ops Q l a w
 | [],rl,W,hc,hok,σ,a,Z,w,θ,inv,hd,hev,hQ=>by
   simp [compOps] at hc; subst hc
   exact hQ σ a Z w θ hev inv hd
 | o :: l,rl,W,hc,hok,σ,a,Z,w,θ,inv,hd,hev,hQ=>by
   unfold compOps at hc
   split at hc<;>try (cases hc; done)
   rename_i io g rl' h1 h2 h3
   simp only [sI] at hc; subst hc
   unfold okReg at hok
   simp only [Bool.and_eq_true] at hok
   obtain ⟨hgok,hdok⟩:=hok
   have hdst:∃ W',okReg N W' rl'=true∧((o.dst=none∧g=none∧isSt io=true)∨∃ d,o.dst=some d∧d < N):=by
    cases hdd:o.dst with
    | none=>
      rw [hdd] at hdok
      simp only [Bool.and_eq_true] at hdok
      obtain ⟨ha,hb⟩:=hdok
      refine ⟨W,hb,.inl ⟨rfl,?_⟩⟩
      cases io with
      | store n x v=>
        cases g with
        | none=>exact ⟨rfl,rfl⟩
        | some q=>cases ha
      | mput n x i=>
        cases g with
        | none=>exact ⟨rfl,rfl⟩
        | some q=>cases ha
      | pv k xs=>
        cases k with
        | bad=>
          cases g with
          | none=>exact ⟨rfl,rfl⟩
          | some q=>cases ha
        | _=>exfalso; revert ha; cases g<;>simp
      | _=>cases ha
    | some d=>
      rw [hdd] at hdok
      simp only [Bool.and_eq_true,decide_eq_true_eq,Bool.not_eq_true'] at hdok
      exact ⟨d::W,hdok.2,.inr ⟨d,rfl,hdok.1.2⟩⟩
   obtain ⟨W',hok',hdst⟩:=hdst
   have nxt:=λ(σ':St) (a':Act) (Z':Nat→Prop) (w':World) (θ':Nat→Value) hinv hd' hk=>opsS_sound hΦ (Q:=Q) (K:=K) l rl' W' h3 hok' σ' a' Z' w' θ' hinv hd' hk hQ
   have nog:∀ k q y,σ.s k≠ .gd q y:=inv.nog.resolve_left id
   have hdp:∀ v,(a.put o.dst v).defers= []:=λv=>by cases o.dst<;>exact hd
   have same:∀ (k:Nat) (x:AV),σ.s k=x→(⟨upd σ.s k x,σ.m⟩:St) =σ:=by
    intro k x hx
    have:upd σ.s k x=σ.s:=by
     funext j
     simp only [upd]
     split
     · rename_i e; rw [e,hx]
     · rfl
    rw [this]
   have one : ∀ (af:List Nat) (σ1:St),σ1=σ→evS0 Φ o.dst af σ1 (λσ'=>evOpsS Φ rl' σ' K) io→∀ (K':Act→World→Prop),(∀ a' w',wpList P ops Q l a' w'→K' a' w')→o.wp P a w K' Q:=by
    intro af σ1 hσ hev1 K' hK'
    subst hσ
    unfold evS0 at hev1
    cases hp:pickOf io with
    | none=>
      rw [hp] at hev1
      simp only [evS0k] at hev1
      refine op1_sound hΦ inv h1 (hdst.imp (λh=>⟨h.1,h.2.2⟩) id) hev1 λv σ' Z' w' θ' hk hinv=>hK' _ _ (nxt σ' _ Z' w' θ' hinv (hdp v) hk)
    | some q=>
      obtain ⟨c,x,y⟩:=q
      have hio:io= .pick c x y:=by cases io<;>simp [pickOf] at hp; obtain ⟨rfl,rfl,rfl⟩:=hp; rfl
      subst hio
      rw [hp] at hev1
      simp only [evS0k] at hev1
      unfold pickS at hev1
      split at hev1<;>try (exact hev1.elim)
      rename_i b hb
      cases hod:o.dst with
      | none=>rw [hod] at hev1; exact hev1.elim
      | some d=>
      rw [hod] at hev1
      cases c with
      | c v=>exact hev1.elim
      | t k=>
      obtain ⟨hx,hy⟩:=hev1
      obtain ⟨c0,x0,y0,ho,hc0,hx0,hy0⟩:=comp_pick h1
      have hk:σ1.s k= .bool b:=hb
      have rp :∀ {z:A} {z0:Operand},compA z0=some z→Rep Z w θ (ar σ1 z) (a.eval z0):=by
       intro z z0 hz
       have hnog:∀ q y,ar σ1 z≠ .gd q y:=by
        intro q y e
        cases z with
        | t n=>exact nog n q y e
        | c v =>
          have:=av_rep (σ:=⟨λ_=> .junk,σ1.m⟩) (a:=a) (Z:=Z) (w:=w) (θ:=θ) (p:=[]) (λk=>Rep.junk _ _) (by intro q hq; cases hq) hz (y:=v)
          simp only [ar] at e
          subst e
          cases z0 with
          | tmp t=>simp [compA] at hz
          | func f=>simp [compA] at hz
          | global g=>simp [compA] at hz
          | const v=>
            simp only [compA,Option.map_eq_some_iff] at hz
            obtain ⟨u,hu,e⟩:=hz
            cases e
            cases hcv:constAV v with
            | some u'=>
              rw [hcv] at hu
              simp only [Option.some_or,sI] at hu
              subst hu
              have:=(constAV_rep (Z:=Z) (w:=w) (θ:=θ) hcv).2
              simp [AV.clean0] at this
            | none=>
              rw [hcv] at hu
              simp only [Option.none_or] at hu
              unfold idle at hu
              split at hu<;>simp at hu
       refine av_rep (p:=[]) inv.slot (by intro q hq; cases hq) hz ?_
       show gv [] (ar σ1 z) =some (ar σ1 z)
       generalize ar σ1 z=u at hnog
       cases u<;>first | rfl | exact absurd rfl (hnog _ _)
      have hcv:=rp hc0
      rw [hb] at hcv
      generalize hcc:a.eval c0=vc at hcv
      cases hcv
      have hdN:d < N:=by
       rcases hdst with ⟨e,_⟩ | ⟨d',e,h⟩
       · rw [hod] at e; cases e
       · rw [hod] at e; cases e; exact h
      have fin:∀ (z:A) (z0:Operand),compA z0=some z→(execOp a.eval o).run P w= .ok (.value (a.eval z0)) w→evOpsS Φ rl' ⟨upd (upd σ1.s k (.bool b)) d (ar σ1 z),σ1.m⟩ K→o.wp P a w K' Q:=by
       intro z z0 hz hrun hk2
       refine Qo0 hrun (hK' _ _ ?_)
       have es:upd σ1.s k (.bool b) =σ1.s:=congrArg St.s (same k (.bool b) hk)
       rw [es] at hk2
       have hi:=inv.put (d:=d) (by simp) hdN (r:=⟨[],[],ar σ1 z,[],none,[]⟩) (v:=a.eval z0) ⟨rp hz,.refl _ _,λ_ _=>rfl,inv.mem,by simp⟩
       refine nxt ⟨upd σ1.s d (ar σ1 z),σ1.m⟩ _ Z w θ ?_ (hdp _) hk2
       rw [hod]
       exact ⟨hi.slot,hi.mem,λk q y e=>absurd e ((hi.nog.resolve_left _root_.id) k q y),hi.nog,hi.size⟩
      cases b with
      | true=>exact fin x x0 hx0 (by simp [execOp,ho,hcc,asBool]) (hx rfl)
      | false=>exact fin y y0 hy0 (by simp [execOp,ho,hcc,asBool]) (hy rfl)
   refine wpList_step λK' hK'=>?_
   cases hog:o.guard with
   | none=>
     have hg':g=none:=by
      unfold compGuard at h2; rw [hog] at h2; simpa using h2.symm
     subst hg'
     rw [if_pos (by simp [Region.wanted,hog])]
     exact one _ σ rfl hev K' hK'
   | some jb=>
     obtain ⟨j,b⟩:=jb
     have hg':∃ s,(ops[j]?).bind (·.dst) =some s∧g=some (s,b):=by
      unfold compGuard at h2
      rw [hog] at h2
      simp only at h2
      split at h2
      · rename_i s hs
        exact ⟨s,hs,by simpa using h2.symm⟩
      · cases h2
     obtain ⟨s,hs,rfl⟩:=hg'
     have hwant:=wanted_iff (ops:=ops) (o:=o) (tm:=a.tmps) hog hs
     simp only [evOpsS,evS1] at hev
     have skip:∀ σ',σ'=σ→(∀ d,o.dst=some d→evOpsS Φ rl' ⟨upd σ'.s d (.tup []),σ'.m⟩ K)→K' (a.put o.dst undef) w:=by
      intro σ' e hk2
      subst e
      refine hK' _ _ ?_
      rcases hdst with ⟨_,h,_⟩ | ⟨d,hod,hdN⟩
      · cases h
      · have hk2:=hk2 d hod
        rw [hod]
        have hu:Rep Z w θ (.tup []) undef:=Rep.tup θ [] [] rfl (by simp) (by simp)
        have hi:=inv.put (d:=d) (by simp) hdN (r:=⟨[],[],.tup [],[],none,[]⟩) (v:=undef) ⟨hu,.refl _ _,λ_ _=>rfl,inv.mem,by simp⟩
        refine nxt ⟨upd σ'.s d (.tup []),σ'.m⟩ _ Z w θ ?_ hd hk2
        exact ⟨hi.slot,hi.mem,λk q y e=>absurd e ((hi.nog.resolve_left _root_.id) k q y),hi.nog,hi.size⟩
     unfold evSG at hev
     split at hev<;>try (exact hev.elim)
     · rename_i c hsc
       obtain ⟨hy,hn⟩:=hev
       have hval:a.tmps[s]? =some (.bool c):=by
        have h:=inv.slot s
        rw [hsc] at h
        apply getD_bool
        generalize a.tmps.getD s undef=v at h
        cases h; rfl
       by_cases hcb:c=b
       · subst hcb
         rw [if_pos (hwant.2 hval)]
         exact one _ _ (same s (.bool c) hsc) (hy rfl) K' hK'
       · rw [if_neg (λh=>hcb (by have:=hwant.1 h; rw [hval] at this; simpa using this))]
         have hc':c=(!b):=by cases c<;>cases b<;>simp_all
         have hk2:=hn hc'
         refine skip _ (same s (.bool (!b)) (by rw [hsc,hc'])) ?_
         intro d hod
         rw [hod] at hk2
         exact hk2
     · rename_i hsc
       have hval:a.tmps[s]?≠some (.bool b):=by
        have h:=inv.slot s
        rw [hsc] at h
        intro e
        have:a.tmps.getD s undef= .bool b:=by simp [Array.getD_eq_getD_getElem?,e]
        rw [this] at h
        cases h
       rw [if_neg (λh=>hval (hwant.1 h))]
       refine skip σ rfl ?_
       intro d hod
       rw [hod] at hev
       exact hev
theorem opR_sound (hΦ:∀ f C,Φ f=some C→Sound P f C) {G:Prop} {Z:Nat→Prop} {w:World} {θ:Nat→Value} {W:List Nat} {σ:St} {a:Act} {ops:Array Oper} {o:Oper} {io:IOp} {g:Option (Nat×Bool)} {af:List Nat} {r:Res}
 (inv:Inv X N G Z w θ W σ a.tmps) (hc:compOp P dr own o=some io) (hg:compGuard ops o=some g)
 (hgW:∀ s b,g=some (s,b)→s∈W∧G) (hdst:(o.dst=none∧g=none∧isSt io=true)∨∃ d,o.dst=some d∧d∉W∧(needD io=true→d+1≠0)∧d < N)
 (he:evR Φ ⟨o.dst,io,g,af⟩ σ r) (hpre:∀ q∈r.pre,q) (K:Act→World→Prop) (Q:Exit→Act→World→Prop)
 (hK:∀ v Z' w' θ',Goes Z w Z' w'→(∀ q∈r.post,q)→Inv X N G Z' w' θ' (match o.dst with | some d=>d::W | none=>W) (σ.put o.dst r) (a.put o.dst v).tmps→K (a.put o.dst v) w'):
 if Region.wanted o (yielded ops a.tmps) then o.wp P a w K Q else K (a.put o.dst undef) w:=by
 rcases he with he | he
 · exact opG_sound hΦ inv hc hg hgW hdst he hpre K Q hK
 have gd:∀ s b,g=some (s,b)→∃ j,o.guard=some (j,b)∧(ops[j]?).bind (·.dst) =some s:=by
  rintro s b rfl
  unfold compGuard at hg
  split at hg
  · cases hg
  · rename_i j b' hog
    split at hg
    · rename_i s' hs
      simp only [sI,Prod.mk.injEq] at hg
      obtain ⟨rfl,rfl⟩:=hg
      exact ⟨j,hog,hs⟩
    · cases hg
 have val:∀ s c,σ.s s= .bool c→a.tmps[s]? =some (.bool c):=by
  intro s c hsc
  have h:=inv.slot s
  rw [hsc] at h
  apply getD_bool
  generalize a.tmps.getD s undef=v at h
  cases h; rfl
 rcases he with ⟨hp,he⟩ | ⟨s,b,h1,h2,rfl⟩
 · have hw:Region.wanted o (yielded ops a.tmps) =true:=by
    rcases hp with h | ⟨s,b,h1,h2⟩
    · simp only at h
      subst h
      unfold compGuard at hg
      split at hg
      · rename_i hog; simp [Region.wanted,hog]
      · split at hg<;>cases hg
    · obtain ⟨j,hog,hs⟩:=gd s b h1
      exact (wanted_iff hog hs).2 (val s b h2)
   rw [if_pos hw]
   rcases he with he | ⟨k,x,y,q,v,h1,h2,h3,rfl⟩
   · have hok:=op_sound (P:=P) (X:=X) hΦ hc inv.slot (p:=[]) (by intro q hq; cases hq) inv.mem (λ_=>Nat.succ_ne_zero _) he hpre
     refine hok K Q λv Z' w' θ' ho=>hK v Z' w' θ' ho.goes ho.post ?_
     rcases hdst with ⟨hd,_,hst⟩ | ⟨d,hd,hdW,hd0,hdN⟩
     · have:=inv.put0 (st_new hst he) ho
       simpa [hd,Act.put] using this
     · rw [hd] at ho ⊢
       simp only [Option.getD_some] at ho
       exact inv.put hdW hdN ho
   · simp only at h1
     subst h1
     obtain ⟨c0,x0,y0,ho,hc0,hx0,hy0⟩:=comp_pick hc
     have hcv:=av_rep (p:=[]) inv.slot (by intro q hq; cases hq) hc0 (y:= .bool q) (by show gv [] (σ.s k) =_; rw [h2]; rfl)
     generalize hcc:a.eval c0=vc at hcv
     cases hcv
     obtain ⟨d,hd,hdW,_,hdN⟩:∃ d,o.dst=some d∧d∉W∧(needD (.pick (.t k) x y) =true→d+1≠0)∧d < N:=by
      rcases hdst with ⟨_,_,h⟩ | h
      · cases h
      · exact h
     have fin:∀ (z:A) (z0:Operand),compA z0=some z→av σ [] z=some v→(execOp a.eval o).run P w= .ok (.value (a.eval z0)) w→o.wp P a w K Q:=by
      intro z z0 hz hzv hrun
      have hr:=av_rep (p:=[]) inv.slot (by intro q hq; cases hq) hz hzv
      refine Qo0 hrun (hK _ Z w θ (.refl _ _) (by simp) ?_)
      rw [hd]
      exact inv.put hdW hdN (r:=⟨[],[],v,[],none,[]⟩) ⟨hr,.refl _ _,λ_ _=>rfl,inv.mem,by simp⟩
     cases q with
     | true=>exact fin x x0 hx0 h3 (by simp [execOp,ho,hcc,asBool])
     | false=>exact fin y y0 hy0 h3 (by simp [execOp,ho,hcc,asBool])
 · simp only at h1
   obtain ⟨j,hog,hs⟩:=gd s b h1
   have hw:¬ Region.wanted o (yielded ops a.tmps) =true:=by
    intro h
    have:=(wanted_iff hog hs).1 h
    rw [val s (!b) h2] at this
    cases b<;>simp at this
   rw [if_neg hw]
   refine hK undef Z w θ (.refl _ _) (by simp) ?_
   rcases hdst with ⟨hd,hgn,_⟩ | ⟨d,hd,hdW,hd0,hdN⟩
   · rw [hgn] at h1; cases h1
   · rw [hd]
     exact inv.put hdW hdN (r:=⟨[],[],.junk,[],none,[]⟩) (v:=undef) ⟨.junk _ _,.refl _ _,λ_ _=>rfl,inv.mem,by simp⟩
theorem Zw0 {ops:Array Oper}:∀ {l:List Oper} {rl:List RO},compOps P dr ops l=some rl→rl.length=l.length∧∀ (i:Nat)(o:Oper),l[i]? =some o→∃ io g,compOp P dr (ownLit dr ops o) o=some io∧compGuard ops o=some g∧rl[i]? =some ⟨o.dst,io,g,(o.after.toList.filter λe=>Region.binds .any e).map (·.on)⟩
 | [],rl,h=>by simp [compOps] at h; subst h; exact ⟨rfl,by simp⟩
 | o::l,rl,h=>by
   unfold compOps at h
   split at h<;>try (cases h; done)
   rename_i io g rl' h1 h2 h3
   simp only [sI] at h; subst h
   obtain ⟨hl,hg⟩:=Zw0 h3
   refine ⟨by simp [hl],λi o' hi=>?_⟩
   cases i with
   | zero=>simp at hi; subst hi; exact ⟨io,g,h1,h2,rfl⟩
   | succ i=>exact hg i o' (by simpa using hi)
theorem Zm0:∀ {rl:List RO} {W:List Nat},okReg N W rl=true→∀ (i:Nat)(o:RO),rl[i]? =some o→
 ((o.dst=none∧o.guard=none∧isSt o.op=true)∨∃ d,o.dst=some d∧d∉W∧(needD o.op=true→d+1≠0)∧d < N)∧∀ (j:Nat) (o':RO) d,j < i→rl[j]? =some o'→o'.dst=some d→o.dst≠some d
 | [],W,h,i,o,hi=>by simp at hi
 | o0 :: rl,W,h,i,o,hi=>by
   unfold okReg at h
   simp only [Bool.and_eq_true] at h
   obtain ⟨_,hd⟩:=h
   cases hdd:o0.dst with
   | none=>
     rw [hdd] at hd
     simp only [Bool.and_eq_true] at hd
     obtain ⟨ha,hb⟩:=hd
     cases i with
     | zero=>
       simp at hi; subst hi
       refine ⟨.inl ⟨hdd,?_⟩,by intro j o' d hj; omega⟩
       split at ha
       · rename_i n x v h1 h2; exact ⟨h2,by rw [h1]; rfl⟩
       · rename_i n x v h1 h2; exact ⟨h2,by rw [h1]; rfl⟩
       · rename_i xs h1 h2; exact ⟨h2,by rw [h1]; rfl⟩
       · cases ha
     | succ i=>
       obtain ⟨h1,h2⟩:=Zm0 hb i o (by simpa using hi)
       refine ⟨h1,λj o' d hj ho' hd'=>?_⟩
       cases j with
       | zero=>simp at ho'; subst ho'; rw [hdd] at hd'; cases hd'
       | succ j=>exact h2 j o' d (by omega) (by simpa using ho') hd'
   | some d0=>
     rw [hdd] at hd
     simp only [Bool.and_eq_true,decide_eq_true_eq,Bool.not_eq_true'] at hd
     obtain ⟨⟨⟨q1,q2⟩,q3⟩,q4⟩:=hd
     cases i with
     | zero=>
       simp at hi; subst hi
       refine ⟨.inr ⟨d0,hdd,by simpa using q1,λhn=>?_,q3⟩,by intro j o' d hj; omega⟩
       simp only [hn,Bool.not_true,Bool.false_or,decide_eq_true_eq] at q2
       exact q2
     | succ i=>
       obtain ⟨h1,h2⟩:=Zm0 q4 i o (by simpa using hi)
       refine ⟨h1.imp id λ⟨d,e1,e2,e3⟩=>⟨d,e1,λhm=>e2 (List.mem_cons_of_mem _ hm),e3⟩,λj o' d hj ho' hd'=>?_⟩
       cases j with
       | zero=>
         simp at ho'; subst ho'
         rw [hdd] at hd'; cases hd'
         rcases h1 with ⟨e,_⟩ | ⟨d,e1,e2,_⟩
         · rw [e]; simp
         · rw [e1]; intro he; cases he; exact e2 (by simp)
       | succ j=>exact h2 j o' d (by omega) (by simpa using ho') hd'
structure DrawAt (raw cl:List RO)(n:Nat)(o:RO):Prop where
 lt:∀ e∈o.after,e < n
 rawlt:∀ x,raw[n]? =some x→∀ e∈x.after,e < n
 guard:∀ g b,o.guard=some (g,b)→∃ e∈o.after,∃ x,cl[e]? =some x∧x.dst=some g
 close:∀ e∈o.after,∃ x,raw[n]? =some x∧(e∈x.after∨∃ j∈x.after,∃ y,cl[j]? =some y∧e∈y.after)
 apart:∀ m,m < n→o.after.contains m=false→∃ x,cl[m]? =some x∧apartO x o=true
theorem Zr0 {raw cl:List RO}(h:okDraw raw cl=true) {n:Nat} {o:RO}(ho:cl[n]? =some o):DrawAt raw cl n o:=by
 have hn:n < cl.length:=(List.getElem?_eq_some_iff.1 ho).1
 simp only [okDraw,List.all_eq_true,List.mem_range] at h
 have h:=h n hn
 rw [ho] at h
 simp only [okDrawAt,Bool.and_eq_true,List.all_eq_true,decide_eq_true_eq,List.mem_range] at h
 obtain ⟨⟨⟨⟨h1,h2⟩,h3⟩,h4⟩,h5⟩:=h
 refine ⟨h1,?_,?_,?_,?_⟩
 · intro x hx e he
   rw [hx] at h2
   simp only [Option.map_some,Option.any_some,List.all_eq_true,decide_eq_true_eq] at h2
   exact h2 e he
 · intro g b hg
   rw [hg] at h3
   simp only [List.any_eq_true,beq_iff_eq] at h3
   obtain ⟨e,he,hx⟩:=h3
   obtain ⟨x,hx1,hx2⟩:=Option.bind_eq_some_iff.1 hx
   exact ⟨e,he,x,hx1,hx2⟩
 · intro e he
   have:=h4 e he
   cases hr:raw[n]? with
   | none=>rw [hr] at this; simp at this
   | some x=>
     rw [hr] at this
     simp only [Option.map_some,Option.any_some,Bool.or_eq_true,List.any_eq_true] at this
     refine ⟨x,rfl,?_⟩
     rcases this with h | ⟨j,hj,h⟩
     · exact .inl (by simpa using h)
     · right
       cases hc:cl[j]? with
       | none=>rw [hc] at h; simp at h
       | some y=>
         rw [hc] at h
         simp only [Option.map_some,Option.any_some] at h
         exact ⟨j,hj,y,hc,by simpa using h⟩
 · intro m hm hcm
   have:=h5 m hm
   rw [hcm] at this
   simp only [Bool.false_or] at this
   cases hc:cl[m]? with
   | none=>rw [hc] at this; simp at this
   | some x=>rw [hc] at this; exact ⟨x,rfl,this⟩
theorem Qs0 {listed:Array Bool} {i:Nat}(h:i < listed.size):listed.getD i false=listed.getD i true:=by
 simp [h]
theorem any_sound (hΦ:∀ f C,Φ f=some C→Sound P f C) {G:Prop} {ops:Array Oper} {raw:List RO}(hc:compOps P dr ops ops.toList=some raw)(hok:okReg N [] raw=true)(hdr:okDraw raw (closeGo raw []) =true)
 (hG:∀ o∈closeGo raw [],o.guard.isSome=true→G) {Q:Exit→Act→World→Prop} {K:St→Prop} {Tall:List (Nat×RO×Res)} (hT:Tall.map (·.2.1) =closeGo raw []) (hidx:∀ (i:Nat) (t:Nat×RO×Res),Tall[i]? =some t→t.1=i)
 (hQ:∀ (σ':St) (a':Act) (Z':Nat→Prop) (w':World) (θ':Nat→Value) (W':List Nat),K σ'→Inv X N G Z' w' θ' W' σ' a'.tmps→a'.defers= []→Q .normal a' w'):
 ∀ (fuel:Nat) (listed:Array Bool) (T:List (Nat×RO×Res)) (σ:St) (a:Act) (Z:Nat→Prop) (w:World) (θ:Nat→Value) (W:List Nat),
   listed.size=ops.size→T.length=fuel→(∀ t,t∈T↔t∈Tall∧listed.getD t.1 true=false)→T.Pairwise (λx y=>x.1 < y.1)→
   (∀ t∈Tall,listed.getD t.1 true=true→∀ e∈t.2.1.after,listed.getD e false=true)→
   EvL Φ T σ (λσ'=>(∀ t∈T,∀ q∈t.2.2.post,q)→K σ')→cleanAll T σ→
   Inv X N G Z w θ W σ a.tmps→a.defers= []→
   (∀ d∈W,∃ t∈Tall,listed.getD t.1 true=true∧t.2.1.dst=some d)→(∀ t∈Tall,listed.getD t.1 true=true→∀ d,t.2.1.dst=some d→d∈W)→
   wpAny P .any ops Q fuel listed a w:=by
 obtain ⟨hlen,hget⟩:=Zw0 hc
 have hTl:Tall.length=ops.size:=by
  have:=congrArg List.length hT
  simpa [Zh0,hlen] using this
 have at_ :∀ (i:Nat) (oper:Oper),ops[i]? =some oper→∃ (io:IOp) (g:Option (Nat×Bool)) (af:List Nat) (r:Res),Tall[i]? =some (i,(⟨oper.dst,io,g,af⟩:RO),r)∧compOp P dr (ownLit dr ops oper) oper=some io∧compGuard ops oper=some g∧(closeGo raw [])[i]? =some (⟨oper.dst,io,g,af⟩:RO)∧
  raw[i]? =some (⟨oper.dst,io,g,(oper.after.toList.filter λe=>Region.binds .any e).map (·.on)⟩:RO):=by
  intro i oper hi
  obtain ⟨io,g,h1,h2,h3⟩:=hget i oper (by simpa using hi)
  obtain ⟨af,h4⟩:=Zi0 raw [] i
  rw [h3] at h4
  simp only [Option.map_some] at h4
  have hlt:i < Tall.length:=by rw [hTl]; exact (Array.getElem?_eq_some_iff.1 hi).1
  have h5:(Tall.map (·.2.1))[i]? =some ⟨oper.dst,io,g,af⟩:=by rw [hT]; exact h4
  rw [List.getElem?_map] at h5
  obtain ⟨t,ht,h6⟩:=Option.map_eq_some_iff.1 h5
  have h7:=hidx i t ht
  obtain ⟨n,o,r⟩:=t
  simp only at h6 h7
  subst h6 h7
  exact ⟨io,g,af,r,ht,h1,h2,h4,h3⟩
 have of_mem:∀ t∈Tall,t.1 < ops.size∧Tall[t.1]? =some t:=by
  intro t ht
  obtain ⟨i,hi⟩:=List.getElem?_of_mem ht
  have:=hidx i t hi
  rw [this]
  exact ⟨by rw [← hTl]; exact (List.getElem?_eq_some_iff.1 hi).1,hi⟩
 have cl_of:∀ t∈Tall,(closeGo raw [])[t.1]? =some t.2.1:=by
  intro t ht
  rw [← hT,List.getElem?_map,(of_mem t ht).2]; rfl
 have raw_of:∀ t∈Tall,∃ x,raw[t.1]? =some x∧x.dst=t.2.1.dst∧x.guard=t.2.1.guard∧x.op=t.2.1.op:=by
  intro t ht
  obtain ⟨af,h4⟩:=Zi0 raw [] t.1
  rw [cl_of t ht] at h4
  obtain ⟨x,hx,h5⟩:=Option.map_eq_some_iff.1 h4.symm
  exact ⟨x,hx,by rw [← h5],by rw [← h5],by rw [← h5]⟩
 intro fuel
 induction fuel with
 | zero=>
   intro listed T σ a Z w θ W hls hTn hTm hTp hcl hE hca inv hd hW1 hW2
   have hT0:T= []:=List.length_eq_zero_iff.1 hTn
   subst hT0
   refine ⟨?_,hQ σ a Z w θ W (hE (by simp)) inv hd⟩
   refine List.eq_nil_iff_forall_not_mem.2 λi hi=>?_
   obtain ⟨h0,oper,ho,_⟩:=mem_ready.1 hi
   obtain ⟨io,g,af,r,ht,_⟩:=at_ i oper ho
   exact absurd ((hTm _).2 ⟨List.mem_of_getElem? ht,h0⟩) (by simp)
 | succ fuel ih=>
   intro listed T σ a Z w θ W hls hTn hTm hTp hcl hE hca inv hd hW1 hW2
   constructor
   · intro hr
     exfalso
     cases T with
     | nil=>simp at hTn
     | cons t T=>
       obtain ⟨htA,htl⟩:=(hTm t).1 (by simp)
       obtain ⟨hlt,hgt⟩:=of_mem t htA
       obtain ⟨oper,ho⟩:∃ oper,ops[t.1]? =some oper:=⟨_,Array.getElem?_eq_getElem hlt⟩
       have :t.1∈Region.ready .any ops listed:=by
        refine mem_ready.2 ⟨htl,oper,ho,λe he hb=>?_⟩
        obtain ⟨io,g,af,r,h1,h2,h3,h4,h5⟩:=at_ t.1 oper ho
        have D:=Zr0 hdr h4
        have hem:e.on∈((oper.after.toList.filter λe=>Region.binds .any e).map (·.on)):=by
         refine List.mem_map.2 ⟨e,List.mem_filter.2 ⟨by simpa using he,hb⟩,rfl⟩
        have hel:=D.rawlt _ h5 e.on hem
        have helt:e.on < listed.size:=by omega
        rw [Qs0 helt]
        cases hx:listed.getD e.on true with
        | true=>rfl
        | false=>
          exfalso
          have h6:e.on < Tall.length:=by omega
          have h7:=(hTm Tall[e.on]).2 ⟨List.getElem_mem h6,by rw [hidx e.on _ (List.getElem?_eq_getElem h6)]; exact hx⟩
          rcases List.mem_cons.1 h7 with h8 | h8
          · have:=hidx e.on _ (List.getElem?_eq_getElem h6); rw [h8] at this; omega
          · have:=(List.pairwise_cons.1 hTp).1 _ h8
            rw [hidx e.on _ (List.getElem?_eq_getElem h6)] at this; omega
       rw [hr] at this; cases this
   · intro i hi
     obtain ⟨h0,oper,ho,hready⟩:=mem_ready.1 hi
     obtain ⟨io,g,af,r,h1,h2,h3,h4,h5⟩:=at_ i oper ho
     have hilt:i < ops.size:=(Array.getElem?_eq_some_iff.1 ho).1
     have D:=Zr0 hdr h4
     have hmem:(i,(⟨oper.dst,io,g,af⟩:RO),r)∈T:=(hTm _).2 ⟨List.mem_of_getElem? h1,h0⟩
     obtain ⟨A,B,rfl⟩:=List.append_of_mem hmem
     obtain ⟨pA,pB,pAB⟩:=List.pairwise_append.1 hTp
     obtain ⟨pB1,pB2⟩:=List.pairwise_cons.1 pB
     have hdone:∀ e∈af,listed.getD e false=true:=by
      intro e he
      obtain ⟨x,hx,hor⟩:=D.close e he
      rw [h5] at hx
      obtain rfl:=Option.some.inj hx
      have rawdone:∀ j∈(oper.after.toList.filter λe=>Region.binds .any e).map (·.on),listed.getD j false=true:=by
       intro j hj
       obtain ⟨e',he',rfl⟩:=List.mem_map.1 hj
       obtain ⟨he1,he2⟩:=List.mem_filter.1 he'
       exact hready e' (by simpa using he1) he2
      rcases hor with h | ⟨j,hj,y,hy,hey⟩
      · exact rawdone e h
      · have hjd:=rawdone j hj
        have hjlt:j < i:=D.rawlt _ h5 j hj
        have hjT:j < Tall.length:=by omega
        have ht:=hcl Tall[j] (List.getElem_mem hjT) (by rw [hidx j _ (List.getElem?_eq_getElem hjT),← Qs0 (by omega)]; exact hjd)
        have hyy:=cl_of Tall[j] (List.getElem_mem hjT)
        rw [hidx j _ (List.getElem?_eq_getElem hjT),hy] at hyy
        obtain rfl:=Option.some.inj hyy
        exact ht e hey
     have hundone:∀ t∈A,af.contains t.1=false:=by
      intro t ht
      cases hx:af.contains t.1 with
      | false=>rfl
      | true=>
        have h6:=hdone t.1 (by simpa using hx)
        obtain ⟨h7,h8⟩:=(hTm t).1 (by simp [ht])
        rw [Qs0 (by rw [hls]; exact (of_mem t h7).1),h8] at h6
        cases h6
     obtain ⟨g1,g2,g3,g4,g5⟩:=EvL_front A σ hE hca (by
      intro t ht
      have htT:=((hTm t).1 (by simp [ht])).1
      have hlt:t.1 < i:=pAB t ht _ (List.mem_cons_self ..)
      refine ⟨hundone t ht,?_,?_⟩
      · obtain ⟨x,hx,hap⟩:=D.apart t.1 hlt (hundone t ht)
        rw [cl_of t htT] at hx
        obtain rfl:=Option.some.inj hx
        exact hap
      · intro k hk
        obtain ⟨x,hx,hxd,_⟩:=raw_of t htT
        exact (Zm0 hok i _ h5).2 t.1 x k hlt hx (hxd.trans hk))
     have hdst:=(Zm0 hok i _ h5).1
     have hAB:∀ t,t∈A ++ B↔t∈Tall∧(listed.setIfInBounds i true).getD t.1 true=false:=by
      intro t
      constructor
      · intro ht
        have htT:t∈A ++ (i,(⟨oper.dst,io,g,af⟩:RO),r)::B:=by
         rcases List.mem_append.1 ht with h | h
         · exact List.mem_append_left _ h
         · exact List.mem_append_right _ (List.mem_cons_of_mem _ h)
        obtain ⟨h6,h7⟩:=(hTm t).1 htT
        have hne:i≠t.1:=by
         rcases List.mem_append.1 ht with h | h
         · have:=pAB t h _ (List.mem_cons_self ..); simp only at this; omega
         · have:=pB1 t h; simp only at this; omega
        exact ⟨h6,by rw [Go.getD_set_ne true hne]; exact h7⟩
      · rintro ⟨h6,h7⟩
        have hne:i≠t.1:=by
         rintro rfl
         simp [hls,hilt] at h7
        rw [Go.getD_set_ne true hne] at h7
        have:=(hTm t).2 ⟨h6,h7⟩
        rcases List.mem_append.1 this with h | h
        · exact List.mem_append_left _ h
        · rcases List.mem_cons.1 h with h | h
          · exact absurd (by rw [h]) hne
          · exact List.mem_append_right _ h
     have fin:=opR_sound hΦ (X:=X) (N:=N) (ops:=ops) (o:=oper) (af:=af) inv h2 h3 (by
      rintro s b rfl
      obtain ⟨e,he,x,hx,hxd⟩:=D.guard s b rfl
      have helt:=D.lt e he
      have heT:e < Tall.length:=by omega
      have hxx:=cl_of Tall[e] (List.getElem_mem heT)
      rw [hidx e _ (List.getElem?_eq_getElem heT),hx] at hxx
      obtain rfl:=Option.some.inj hxx
      refine ⟨hW2 Tall[e] (List.getElem_mem heT) ?_ s hxd,hG _ (List.mem_of_getElem? h4) rfl⟩
      rw [hidx e _ (List.getElem?_eq_getElem heT),← Qs0 (by omega)]
      exact hdone e he) (hdst.imp (λ⟨e1,e2,e3⟩=>⟨e1,e2,e3⟩) (λ⟨d,e1,e2,e3,e4⟩=>⟨d,e1,λhdW=>by
       obtain ⟨t,ht,htl,htd⟩:=hW1 d hdW
       obtain ⟨x,hx,hxd,_⟩:=raw_of t ht
       simp only at e1
       rcases Nat.lt_trichotomy t.1 i with hlt | heq | hgt
       · exact (Zm0 hok i _ h5).2 t.1 x d hlt hx (hxd.trans htd) e1
       · rw [heq,h0] at htl; cases htl
       · exact (Zm0 hok t.1 x hx).2 i _ d hgt h5 e1 (hxd.trans htd),e3,e4⟩)) g1 g2 (wpAny P .any ops Q fuel (listed.setIfInBounds i true)) Q (by
      intro v Z' w' θ' hg hpost hinv
      refine ih (listed.setIfInBounds i true) (A ++ B) _ _ Z' w' θ' _ (by simpa using hls) ?_ hAB ?_ ?_ ?_ g5 hinv ?_ ?_ ?_
      · simp at hTn ⊢; omega
      · refine List.pairwise_append.2 ⟨pA,pB2,λx hx y hy=>pAB x hx y (List.mem_cons_of_mem _ hy)⟩
      · intro t ht htl e he
        by_cases hti:t.1=i
        · have:t=(i,(⟨oper.dst,io,g,af⟩:RO),r):=by
           have h8:=(of_mem t ht).2
           rw [hti,h1] at h8
           exact (Option.some.inj h8).symm
          subst this
          exact getD_set_true (hdone e he)
        · rw [Go.getD_set_ne true (λe=>hti e.symm)] at htl
          exact getD_set_true (hcl t ht htl e he)
      · have mono:∀ (T:List (Nat×RO×Res)) (σ:St) (K K':St→Prop),(∀ σ,K σ→K' σ)→EvL Φ T σ K→EvL Φ T σ K':=by
         intro T
         induction T with
         | nil=>intro σ K K' hk h; exact hk σ h
         | cons x T ih=>
           intro σ K K' hk h
           simp only [EvL] at h ⊢
           exact ⟨h.1,h.2.1,h.2.2.1,h.2.2.2.1,ih _ _ _ hk h.2.2.2.2⟩
        refine mono _ _ _ _ (λσ' hk hp=>hk λt ht=>?_) g4
        rcases List.mem_append.1 ht with h | h
        · exact hp t (List.mem_append_left _ h)
        · rcases List.mem_cons.1 h with rfl | h
          · exact hpost
          · exact hp t (List.mem_append_right _ h)
      · cases oper.dst<;>exact hd
      · intro d hdW
        have old:∀ d∈W,∃ t∈Tall,(listed.setIfInBounds i true).getD t.1 true=true∧t.2.1.dst=some d:=by
         intro d hd
         obtain ⟨t,ht,htl,htd⟩:=hW1 d hd
         refine ⟨t,ht,?_,htd⟩
         have hl:=(of_mem t ht).1
         rw [← Qs0 (by simpa [hls] using hl)]
         exact getD_set_true (by rw [Qs0 (by omega)]; exact htl)
        cases hod:oper.dst with
        | none=>rw [hod] at hdW; exact old d hdW
        | some d'=>
          rw [hod] at hdW
          rcases List.mem_cons.1 hdW with rfl | hdW
          · refine ⟨_,List.mem_of_getElem? h1,?_,hod⟩
            simp [hls,hilt]
          · exact old d hdW
      · intro t ht htl d hd
        by_cases hti:t.1=i
        · have:t=(i,(⟨oper.dst,io,g,af⟩:RO),r):=by
           have h8:=(of_mem t ht).2
           rw [hti,h1] at h8
           exact (Option.some.inj h8).symm
          subst this
          simp only at hd
          rw [hd]; exact List.mem_cons_self ..
        · rw [Go.getD_set_ne true (λe=>hti e.symm)] at htl
          have:=hW2 t ht htl d hd
          cases oper.dst with
          | none=>exact this
          | some d'=>exact List.mem_cons_of_mem _ this)
     unfold wpOp
     simp only [ho]
     split
     · rename_i hw
       rw [if_pos hw] at fin
       exact .inl fin
     · rename_i hw
       rw [if_neg hw] at fin
       exact fin
theorem rep_ungd {Z:Nat→Prop} {w:World} {θ:Nat→Value} {tm:Array Value} {x:AV} {v:Value}(h:SRep Z w θ tm x v):Rep Z w θ (ungd x) v:=by
 cases x<;>first | exact h | exact .junk _ _
theorem endR_inv {ops:List RO} {Z:Nat→Prop} {w:World} {θ:Nat→Value} {W:List Nat} {σ:St} {a:Act}(inv:Inv X N (hasG ops=true) Z w θ W σ a.tmps)(hd:a.defers= []):BInv X N (endR ops σ) a w:=by
 unfold endR
 cases h:hasG ops with
 | true=>exact ⟨Z,θ,λk=>rep_ungd (inv.slot k),inv.mem,inv.size,hd⟩
 | false=>
   refine ⟨Z,θ,λk=>(inv.slot k).rep ?_,inv.mem,inv.size,hd⟩
   rcases inv.nog with hn | hn
   · rw [h] at hn; cases hn
   · exact hn k
theorem kill_binv (b:Nat) {σ:St} {a:Act} {w:World}(h:BInv X N σ a w):BInv X N ⟨killS b σ.s,updM (killM b σ.m) b none⟩ a w:=by
 obtain ⟨Z,θ,hs,hm,hsz,hd⟩:=h
 refine ⟨Z,θ,?_,?_,hsz,hd⟩
 · intro k
   have hk:=SRep.kill (tm:=a.tmps) (tm':=a.tmps) (.refl Z w) b (θ':=θ) (λ_ _=>rfl) (.of_rep (hs k)) (λq y e=>Iff.rfl)
   exact hk.rep (λq y e=>by
    obtain ⟨y',hy'⟩:=kill3_gd e
    exact absurd hy' (Qt0 (hs k) q y'))
 · refine hm.swap (λr hr=>?_) (λr blk hr=>?_)
   · simp only [updM,killM] at hr
     split at hr
     · simp at hr
     · cases hx:σ.m r with
       | none=>rw [hx] at hr; simp at hr
       | some x=>rfl
   · simp only [updM,killM] at hr
     split at hr
     · cases hr
     · cases hx:σ.m r with
       | none=>rw [hx] at hr; cases hr
       | some x=>
         rw [hx] at hr
         simp only [sI] at hr
         subst hr
         have hb:=hm.brep r x hx
         cases x with
         | cells cs=>
           obtain ⟨b',T,vs,e1,e2,e3,e4⟩:=hb
           exact ⟨b',T,vs,e1,e2,e3,e4.kill b (λ_ _=>rfl)⟩
         | buf t z es=>exact hb
         | qb t z es=>exact hb
         | ms n ks=>exact hb
         | clo f z es i off=>exact hb
         | dead=>exact hb.elim
theorem preK_inv:∀ (l:List RO) {σ:St} {a:Act} {w:World},BInv X N σ a w→BInv X N (preK l σ) a w
 | [],_,_,_,h=>h
 | o::l,σ,a,w,h=>by
   unfold preK
   split
   · exact preK_inv l (kill_binv _ h)
   · exact preK_inv l h
theorem kill0_idem (b:Nat)(x:AV):Ev.kill0 b (Ev.kill0 b x) =Ev.kill0 b x:=by
 cases x with
 | ptr r o=>by_cases h1:r=b<;>simp_all [Ev.kill0]
 | ap r o n i=>by_cases h1:r=b<;>simp_all [Ev.kill0]
 | vw r z l m=>by_cases h1:r=b<;>simp_all [Ev.kill0]
 | bp r z i o=>by_cases h1:r=b<;>simp_all [Ev.kill0]
 | sv r z i o=>by_cases h1:r=b<;>simp_all [Ev.kill0]
 | _=>rfl
theorem kill0_comm (b c:Nat)(x:AV):Ev.kill0 b (Ev.kill0 c x) =Ev.kill0 c (Ev.kill0 b x):=by
 cases x with
 | ptr r o=>by_cases h1:r=b<;>by_cases h2:r=c<;>simp_all [Ev.kill0]
 | ap r o n i=>by_cases h1:r=b<;>by_cases h2:r=c<;>simp_all [Ev.kill0]
 | vw r z l m=>by_cases h1:r=b<;>by_cases h2:r=c<;>simp_all [Ev.kill0]
 | bp r z i o=>by_cases h1:r=b<;>by_cases h2:r=c<;>simp_all [Ev.kill0]
 | sv r z i o=>by_cases h1:r=b<;>by_cases h2:r=c<;>simp_all [Ev.kill0]
 | _=>rfl
end
theorem kill1_keep {b c:Nat} {x:AV}(h:kill1 b x=x):kill1 b (kill1 c x) =kill1 c x:=by
 cases x with
 | agg cs=>
   simp only [kill1,AV.agg.injEq,List.map_map] at h ⊢
   refine List.map_congr_left λy hy=>?_
   have:kill0 b y=y:=by
    obtain ⟨i,hi⟩:=List.getElem?_of_mem hy
    have:=congrArg (·[i]?) h
    simpa [hi] using this
   show kill0 b (kill0 c y) =kill0 c y
   rw [kill0_comm,this]
 | ptr r o=>by_cases h1:r=b<;>by_cases h2:r=c<;>simp_all [kill1,kill0]
 | ap r o n i=>by_cases h1:r=b<;>by_cases h2:r=c<;>simp_all [kill1,kill0]
 | vw r z l m=>by_cases h1:r=b<;>by_cases h2:r=c<;>simp_all [kill1,kill0]
 | bp r z i o=>by_cases h1:r=b<;>by_cases h2:r=c<;>simp_all [kill1,kill0]
 | sv r z i o=>by_cases h1:r=b<;>by_cases h2:r=c<;>simp_all [kill1,kill0]
 | _=>rfl
theorem kill2_keep {b c:Nat} {x:AV}(h:kill2 b x=x):kill2 b (kill2 c x) =kill2 c x:=by
 cases x with
 | tup cs=>
   simp only [kill2,AV.tup.injEq,List.map_map] at h ⊢
   refine List.map_congr_left λy hy=>?_
   have:kill1 b y=y:=by
    obtain ⟨i,hi⟩:=List.getElem?_of_mem hy
    have:=congrArg (·[i]?) h
    simpa [hi] using this
   show kill1 b (kill1 c y) =kill1 c y
   exact kill1_keep this
 | agg cs=>exact kill1_keep (x:= .agg cs) h
 | ptr r o=>by_cases h1:r=b<;>by_cases h2:r=c<;>simp_all [kill2,kill1,kill0]
 | ap r o n i=>by_cases h1:r=b<;>by_cases h2:r=c<;>simp_all [kill2,kill1,kill0]
 | vw r z l m=>by_cases h1:r=b<;>by_cases h2:r=c<;>simp_all [kill2,kill1,kill0]
 | bp r z i o=>by_cases h1:r=b<;>by_cases h2:r=c<;>simp_all [kill2,kill1,kill0]
 | sv r z i o=>by_cases h1:r=b<;>by_cases h2:r=c<;>simp_all [kill2,kill1,kill0]
 | _=>rfl
theorem kill3_keep {b c:Nat} {x:AV}(h:kill3 b x=x):kill3 b (kill3 c x) =kill3 c x:=by
 cases x with
 | gd q y=>
   simp only [kill3,AV.gd.injEq,true_and] at h ⊢
   exact kill2_keep h
 | tup cs=>exact kill2_keep (x:= .tup cs) h
 | agg cs=>exact kill1_keep (x:= .agg cs) h
 | ptr r o=>by_cases h1:r=b<;>by_cases h2:r=c<;>simp_all [kill3,kill2,kill1,kill0]
 | ap r o n i=>by_cases h1:r=b<;>by_cases h2:r=c<;>simp_all [kill3,kill2,kill1,kill0]
 | vw r z l m=>by_cases h1:r=b<;>by_cases h2:r=c<;>simp_all [kill3,kill2,kill1,kill0]
 | bp r z i o=>by_cases h1:r=b<;>by_cases h2:r=c<;>simp_all [kill3,kill2,kill1,kill0]
 | sv r z i o=>by_cases h1:r=b<;>by_cases h2:r=c<;>simp_all [kill3,kill2,kill1,kill0]
 | _=>rfl
theorem kill1_idem (b:Nat)(x:AV):kill1 b (kill1 b x) =kill1 b x:=by
 cases x with
 | agg cs=>
   simp only [kill1,AV.agg.injEq,List.map_map]
   exact List.map_congr_left λy hy=>kill0_idem b y
 | ptr r o=>by_cases h1:r=b<;>simp_all [kill1,kill0]
 | ap r o n i=>by_cases h1:r=b<;>simp_all [kill1,kill0]
 | vw r z l m=>by_cases h1:r=b<;>simp_all [kill1,kill0]
 | bp r z i o=>by_cases h1:r=b<;>simp_all [kill1,kill0]
 | sv r z i o=>by_cases h1:r=b<;>simp_all [kill1,kill0]
 | _=>rfl
theorem kill2_idem (b:Nat)(x:AV):kill2 b (kill2 b x) =kill2 b x:=by
 cases x with
 | tup cs=>
   simp only [kill2,AV.tup.injEq,List.map_map]
   exact List.map_congr_left λy hy=>kill1_idem b y
 | agg cs=>exact kill1_idem b (.agg cs)
 | ptr r o=>by_cases h1:r=b<;>simp_all [kill2,kill1,kill0]
 | ap r o n i=>by_cases h1:r=b<;>simp_all [kill2,kill1,kill0]
 | vw r z l m=>by_cases h1:r=b<;>simp_all [kill2,kill1,kill0]
 | bp r z i o=>by_cases h1:r=b<;>simp_all [kill2,kill1,kill0]
 | sv r z i o=>by_cases h1:r=b<;>simp_all [kill2,kill1,kill0]
 | _=>rfl
theorem kill3_idem (b:Nat)(x:AV):kill3 b (kill3 b x) =kill3 b x:=by
 cases x with
 | gd q y=>simp only [kill3,kill2_idem]
 | tup cs=>exact kill2_idem b (.tup cs)
 | agg cs=>exact kill1_idem b (.agg cs)
 | ptr r o=>by_cases h1:r=b<;>simp_all [kill3,kill2,kill1,kill0]
 | ap r o n i=>by_cases h1:r=b<;>simp_all [kill3,kill2,kill1,kill0]
 | vw r z l m=>by_cases h1:r=b<;>simp_all [kill3,kill2,kill1,kill0]
 | bp r z i o=>by_cases h1:r=b<;>simp_all [kill3,kill2,kill1,kill0]
 | sv r z i o=>by_cases h1:r=b<;>simp_all [kill3,kill2,kill1,kill0]
 | _=>rfl
theorem killB_idem (b:Nat)(x:Blk):killB b (killB b x) =killB b x:=by
 cases x with
 | cells cs=>
   simp only [killB,Blk.cells.injEq,List.map_map]
   exact List.map_congr_left λy hy=>kill0_idem b y
 | buf t z es=>rfl
 | qb t z es=>rfl
 | ms n ks=>rfl
 | clo f z es i off=>rfl
 | dead=>rfl
theorem killB_keep {b c:Nat} {x:Blk}(h:killB b x=x):killB b (killB c x) =killB c x:=by
 cases x with
 | cells cs=>
   simp only [killB,Blk.cells.injEq,List.map_map] at h ⊢
   refine List.map_congr_left λy hy=>?_
   have:kill0 b y=y:=by
    obtain ⟨i,hi⟩:=List.getElem?_of_mem hy
    have:=congrArg (·[i]?) h
    simpa [hi] using this
   show kill0 b (kill0 c y) =kill0 c y
   rw [kill0_comm,this]
 | buf t z es=>rfl
 | qb t z es=>rfl
 | ms n ks=>rfl
 | clo f z es i off=>rfl
 | dead=>rfl
theorem clean_keep {b c:Nat} {σ:St}(h:Clean b σ):Clean b ⟨killS c σ.s,updM (killM c σ.m) c none⟩:=by
 refine ⟨funext λk=>kill3_keep (congrFun h.s k),funext λk=>?_⟩
 simp only [killM,updM]
 by_cases hk:k=c
 · simp [hk]
 · simp only [hk,if_false]
   have:=congrFun h.m k
   simp only [killM] at this
   cases hx:σ.m k with
   | none=>rfl
   | some x=>
     rw [hx] at this
     simp only [sI] at this ⊢
     exact killB_keep this
theorem clean_made (b:Nat)(σ:St):Clean b ⟨killS b σ.s,updM (killM b σ.m) b none⟩:=by
 refine ⟨funext λk=>kill3_idem b _,funext λk=>?_⟩
 simp only [killM,updM]
 by_cases hk:k=b
 · simp [hk]
 · simp only [hk,if_false]
   cases hx:σ.m k with
   | none=>rfl
   | some x=>simp only [killB_idem]
theorem preK_keep {b:Nat}:∀ (l:List RO) {σ:St},Clean b σ→Clean b (preK l σ)
 | [],_,h=>h
 | o::l,σ,h=>by
   unfold preK
   split
   · exact preK_keep l (clean_keep h)
   · exact preK_keep l h
theorem preK_clean:∀ (l:List RO)(σ:St)(o:RO),o∈l→∀ {d:Nat},o.dst=some d→needD o.op=true→Clean ((64 * d+64)) (preK l σ)
 | [],_,_,h,_,_,_=>by cases h
 | o'::l,σ,o,h,d,hd,hn=>by
   unfold preK
   rcases List.mem_cons.1 h with rfl | h
   · simp only [hd,hn]
     exact preK_keep l (clean_made _ _)
   · split
     · exact preK_clean l _ o h hd hn
     · exact preK_clean l _ o h hd hn
section
variable {P:Program} {dr own:Bool} {X:Cx} {Φ:Nat→Option Ctr} {N:Nat}
theorem evOp_new {io:IOp} {d:Nat} {p:List (Nat×Bool)} {σ:St} {r:Res}(h:evOp Φ io d p σ=some r)(hn:r.new.isSome=true):needD io=true:=by
 have of0:(r.ups= []∧r.new=none)→False:=λh=>by rw [h.2] at hn; cases hn
 cases io<;>simp only [evOp] at h<;>try (cases h; done)
 case pv k xs=>exact absurd (pvO_calm h).2.1 (by intro e; rw [e] at hn; cases hn)
 case mov x=>obtain ⟨_,_,h⟩:=Qe0 h; exact (of0 (un1_ups h)).elim
 case not x=>obtain ⟨_,_,h⟩:=Qe0 h; exact (of0 (un1_ups h)).elim
 case neg x=>obtain ⟨_,_,h⟩:=Qe0 h; exact (of0 (un1_ups h)).elim
 case conv k x=>obtain ⟨_,_,h⟩:=Qe0 h; exact (of0 (un1_ups h)).elim
 case extract k x=>obtain ⟨_,_,h⟩:=Qe0 h; exact (of0 (un1_ups h)).elim
 case nilchk x=>obtain ⟨_,_,h⟩:=Qe0 h; exact (of0 (un1_ups h)).elim
 case pick c x y=>
  split at h<;>try (cases h; done)
  obtain ⟨_,_,h⟩:=Qe0 h
  obtain ⟨_,_,_,_,h⟩:=Qd0 h
  obtain ⟨_,_,_,_,_,_,h⟩:=pickV_some h
  exact (of0 (q_ups h)).elim
 case arith op x y=>
  obtain ⟨_,_,_,_,h⟩:=Qd0 h
  unfold arithR at h
  split at h<;>try (cases h; done)
  split at h<;>try (cases h; done)
  split at h<;>first | exact (of0 (q_ups h)).elim | exact (of0 (qp_ups h)).elim | cases h
 case cmp op ty x y=>obtain ⟨_,_,_,_,h⟩:=Qd0 h; exact (of0 (toR_ups h)).elim
 case eqa ng sh x y=>obtain ⟨_,_,_,_,h⟩:=Qd0 h; exact (of0 (toR_ups h)).elim
 case len ty x=>
  obtain ⟨y,_,h⟩:=Qe0 h
  rcases lenM_or σ.m ty y with ⟨r0,a0,b0,c0,rfl⟩ | heq
  · simp only [lenM] at h
    unfold lenV at h
    split at h<;>try (cases h; done)
    all_goals (split at h<;>try (cases h; done))
    all_goals (simp only [sI] at h; subst h; cases hn)
  · rw [heq] at h
    unfold lenR at h
    split at h<;>first | exact (of0 (q_ups h)).elim | (cases h; done) | (simp only [sI] at h; subst h; cases hn)
 case minmax mx xs=>
  split at h<;>try (cases h; done)
  exact (of0 (toR_ups h)).elim
 case faddr off x=>
  obtain ⟨_,_,h⟩:=Qe0 h
  unfold faddrR at h
  split at h<;>first | exact (of0 (q_ups h)).elim | cases h
 case iaddrS zr x i=>
  obtain ⟨_,_,_,_,h⟩:=Qd0 h
  unfold iaddrSM at h
  split at h
  · unfold iasV at h
    split at h<;>try (cases h; done)
    all_goals (split at h<;>try (cases h; done))
    all_goals (simp only [sI] at h; subst h; cases hn)
  · unfold iasP at h
    split at h<;>try (cases h; done)
    split at h<;>try (cases h; done)
    simp only [sI] at h; subst h; cases hn
  · unfold iaddrSR at h
    split at h<;>try (cases h; done)
    split at h<;>try (cases h; done)
    simp only [sI] at h; subst h; cases hn
 case iaddrA n sz x i=>
  obtain ⟨_,_,_,_,h⟩:=Qd0 h
  unfold iaddrAR at h
  split at h<;>first | exact (of0 (qp_ups h)).elim | cases h
 case load n ag x=>
  obtain ⟨_,_,h⟩:=Qe0 h
  unfold loadR at h
  split at h<;>try (cases h; done)
  · split at h<;>try (cases h; done)
    split at h<;>try (cases h; done)
    simp only [sI] at h; subst h; cases hn
  · split at h<;>try (cases h; done)
    exact (of0 (q_ups h)).elim
  · split at h<;>try (cases h; done)
    all_goals (split at h<;>try (cases h; done))
    all_goals (simp only [sI] at h; subst h; cases hn)
 case store n x v=>have:=store_new (d:=d) (p:=p) (σ:=σ) (Φ:=Φ) (n:=n) (x:=x) (v:=v) (by simp only [evOp]; exact h); rw [this] at hn; cases hn
 case alloc z=>rfl
 case box n x=>rfl
 case build z ps=>
  split at h<;>try (cases h; done)
  exact (of0 (q_ups h)).elim
 case bslice n z ps=>
  split at h<;>try (cases h; done)
  exact (of0 (q_ups h)).elim
 case call f xs=>rfl
 case copy sz x y=>
  obtain ⟨_,_,_,_,h⟩:=Qd0 h
  have:=(cpR_ups h).2; rw [this] at hn; cases hn
 case append e b z x y=>rfl
 case appD e b z x y=>rfl
 case appZ e b z x y=>rfl
 case mkslice e b z x y=>rfl
 case mkF b z x y=>
  obtain ⟨_,_,_,_,h⟩:=Qd0 h
  unfold mkFR at h
  split at h<;>try (cases h; done)
  simp only [sI] at h; subst h; cases hn
 case slice sz x l u=>rfl
 case mkmap n=>rfl
 case mkclo f x=>rfl
 case mlook n x i=>
  obtain ⟨_,_,_,_,h⟩:=Qd0 h
  unfold lookR at h
  split at h<;>try (cases h; done)
  unfold lookM1 at h
  split at h<;>try (cases h; done)
  split at h<;>try (cases h; done)
  simp only [sI] at h; subst h; cases hn
 case mput n x i=>have:=put_new (d:=d) (p:=p) (σ:=σ) (Φ:=Φ) (n:=n) (x:=x) (i:=i) (by simp only [evOp]; exact h); rw [this] at hn; cases hn
 case s2b x=>
  obtain ⟨_,_,h⟩:=Qe0 h
  unfold s2bR at h
  split at h<;>try (cases h; done)
  simp only [sI] at h; subst h; cases hn
 case b2s x=>
  obtain ⟨_,_,h⟩:=Qe0 h
  unfold b2sR at h
  split at h
  · exact (of0 (q_ups h)).elim
  · split at h<;>try (cases h; done)
    simp only [sI] at h; subst h; cases hn
  · unfold b2sB at h
    split at h<;>try (cases h; done)
    split at h<;>try (cases h; done)
    simp only [sI] at h; subst h; cases hn
  · unfold b2sP at h
    split at h<;>try (cases h; done)
    split at h<;>try (cases h; done)
    simp only [sI] at h; subst h; cases hn
  · cases h
 case idxS x y=>
  obtain ⟨_,_,_,_,h⟩:=Qd0 h
  unfold idxSR at h
  split at h<;>try (cases h; done)
  simp only [sI] at h; subst h; cases hn
 case idxV n s ag x y=>
  obtain ⟨_,_,_,_,h⟩:=Qd0 h
  unfold idxVR at h
  split at h<;>try (cases h; done)
  split at h<;>try (cases h; done)
  simp only [sI] at h; subst h; cases hn
 case callv fs x xs=>
  split at h<;>try (cases h; done)
  · split at h<;>try (cases h; done)
    have:=(callR_ups h).2; rw [this] at hn; cases hn
  · unfold cloV at h
    split at h<;>try (cases h; done)
    split at h<;>try (cases h; done)
    unfold tchR at h
    split at h<;>try (cases h; done)
    simp only [sI] at h; subst h; cases hn
 case bsliceO e n z ps=>rfl
 case eqnil neg x=>
  obtain ⟨_,_,h⟩:=Qe0 h
  unfold nilR at h
  split at h
  · exact (of0 (q_ups h)).elim
  · split at h<;>first | exact (of0 (q_ups h)).elim | cases h
  · unfold nilV at h
    split at h<;>try (cases h; done)
    split at h<;>try (cases h; done)
    simp only [sI] at h; subst h; cases hn
  · cases h
 case shl n x=>
  obtain ⟨_,_,h⟩:=Qe0 h
  unfold shR at h
  split at h<;>try (cases h; done)
  split at h<;>first | exact (of0 (q_ups h)).elim | cases h
 case shr n x=>
  obtain ⟨_,_,h⟩:=Qe0 h
  unfold shR at h
  split at h<;>try (cases h; done)
  split at h<;>first | exact (of0 (q_ups h)).elim | cases h
 case fld off n ag x=>
  obtain ⟨_,_,h⟩:=Qe0 h
  unfold fldR at h
  split at h<;>try (cases h; done)
  split at h<;>first | exact (of0 (q_ups h)).elim | cases h
theorem evG_new {o:RO} {σ:St} {r:Res}(h:evG Φ o σ=some r)(hn:r.new.isSome=true):needD o.op=true:=by
 unfold evG at h
 split at h
 · exact evOp_new h hn
 · split at h<;>try (cases h; done)
   obtain ⟨pre,post,v,us,t,us',hop,hmer,rfl⟩:=guardR_some h
   cases hn
theorem evR_new {o:RO} {σ:St} {r:Res}(h:evR Φ o σ r)(hn:r.new.isSome=true):needD o.op=true:=by
 rcases h with h | ⟨_,h | ⟨k,x,y,q,v,_,_,_,rfl⟩⟩ | ⟨g,b,_,_,rfl⟩
 · exact evG_new h hn
 · exact evOp_new h hn
 · cases hn
 · cases hn
theorem EvL_new {K:St→Prop}:∀ (T:List (Nat×RO×Res))(σ:St),EvL Φ T σ K→∀ t∈T,t.2.2.new.isSome=true→needD t.2.1.op=true
 | [],_,_,t,ht,_=>by cases ht
 | (n,o,r)::T,σ,h,t,ht,hn=>by
   simp only [EvL] at h
   rcases List.mem_cons.1 ht with rfl | ht
   · exact evR_new h.1 hn
   · exact EvL_new T _ h.2.2.2.2 t ht hn
theorem EvL_newOK {K:St→Prop}:∀ (T:List (Nat×RO×Res))(σ:St),EvL Φ T σ K→∀ t∈T,newOK t.2.1.dst t.2.2
 | [],_,_,t,ht=>by cases ht
 | (n,o,r)::T,σ,h,t,ht=>by
   simp only [EvL] at h
   rcases List.mem_cons.1 ht with rfl | ht
   · exact h.2.2.1
   · exact EvL_newOK T _ h.2.2.2.2 t ht
theorem Mem.drew {Z:Nat→Prop} {w:World} {θ:Nat→Value} {m:Nat→Option Blk}(h:Mem X Z w θ m):Mem X Z {w with drawn:=w.drawn+1} θ m∧Goes Z w Z {w with drawn:=w.drawn+1}:=by
 refine h.stepW none (λ_ h=>h) (λ_ h=> .inl h) h.zlt rfl rfl rfl (Nat.le_refl _) (λ_ _ _=>rfl) (λ_ _=>rfl) (by simp)
theorem Inv.drew {G:Prop} {Z:Nat→Prop} {w:World} {θ:Nat→Value} {W:List Nat} {σ:St} {tm:Array Value}(h:Inv X N G Z w θ W σ tm):Inv X N G Z {w with drawn:=w.drawn+1} θ W σ tm:=by
 obtain ⟨hm,hg⟩:=h.mem.drew
 exact ⟨λk=>(h.slot k).goes hg (λ_=>rfl) (λ_ _ _=>Iff.rfl),hm,h.path,h.nog,h.size⟩
theorem BRep.more {Z Z':Nat→Prop} {w:World} {θ:Nat→Value} {k:Nat} {blk:Blk}(hb:BRep Z w θ k blk)(hz:∀ b,Z b→Z' b)(hn:∀ b,bk (θ k) =some b→Z' b→Z b):BRep Z' w θ k blk:=by
 cases blk with
 | dead=>exact hb.elim
 | cells cs=>
   obtain ⟨b,T,vs,e1,e2,e3,e4⟩:=hb
   exact ⟨b,T,vs,e1,e2,λh=>e3 (hn b (by rw [e1]; rfl) h),e4.step (Goes.wider w hz)⟩
 | buf t z es=>
   obtain ⟨e1,e2,xs,e3,e4,e5⟩:=hb
   exact ⟨e1,e2,xs,e3,λb hb h=>e4 b hb (hn b hb h),e5.step (Goes.wider w hz)⟩
 | qb t z es=>
   obtain ⟨e1,e2,xs,e3,e4,e5⟩:=hb
   exact ⟨e1,e2,xs,e3,λb hb h=>e4 b hb (hn b hb h),e5.step (Goes.wider w hz)⟩
 | ms n ks=>
   obtain ⟨b,E,clock,e1,e2,e3,e4⟩:=hb
   exact ⟨b,E,clock,e1,e2,λh=>e3 (hn b (by rw [e1]; rfl) h),e4⟩
 | clo f z es i off=>
   obtain ⟨v,e1,e2⟩:=hb
   exact ⟨v,e1,e2.step (Goes.wider w hz)⟩
theorem gh_binv {k:Nat} {σ f:St} {a:Act} {w:World}(h:BInv X N σ a w)(hf:BInv X N f a w):BInv X N (ghV k σ f (σ.s k)) a w:=by
 unfold ghV
 split
 · rename_i r hk
   unfold fzB
   split
   · rename_i cs hr
     split
     · rename_i hc
       simp only [Bool.and_eq_true,decide_eq_true_eq] at hc
       obtain ⟨h64,hcl⟩:=hc
       obtain ⟨Z,θ,hs,hm,hsz,hd⟩:=h
       obtain ⟨b,T,vs,hθ,hheap,hnZ,hcs⟩:=hm.brep r _ hr
       have hzz:∀ c,Z c→Z c∨c=b:=λc h=> .inl h
       refine ⟨λc=>Z c∨c=b,θ,λj=>?_,?_,hsz,hd⟩
       · simp only [upd]
         split
         · rename_i hj; subst hj
           have hv:=hs j
           rw [hk] at hv
           generalize a.tmps.getD j undef=v at hv
           cases hv with
           | ptr _ _ _ b' hθ'=>
             rw [hθ] at hθ'
             simp only [Value.pointer.injEq,sI,Addr.mk.injEq,and_true] at hθ'
             subst hθ'
             have:=Rep.ep (Z:=λc=>Z c∨c=b) (w:=w) θ cs [cs] 0 0 b 0 (λ_ j=>vs.getD j .nilIface) (by simp) (by simp) (by simpa using hcs.at1) (.inr rfl) ?_ ?_ ?_
             · simpa using this
             · intro i j c hc
               unfold cellAt at hc
               cases i with
               | succ i=>simp at hc
               | zero=>
                 simp only [List.getElem?_cons_zero,Option.bind_some] at hc
                 obtain ⟨u,hu,_⟩:=hcs.get hc
                 rw [cell_of_row w b _ vs.toArray T (0,0) hheap]
                 simp [hu]
             · intro i j c hc
               unfold cellAt at hc
               cases i with
               | succ i=>simp at hc
               | zero=>
                 simp only [List.getElem?_cons_zero,Option.bind_some] at hc
                 obtain ⟨u,hu,_⟩:=hcs.get hc
                 simp only [List.getD_eq_getElem?_getD,hu,Option.getD_some]
                 exact hcs.one u (List.mem_of_getElem? hu)
             · intro i j c hc
               unfold cellAt at hc
               cases i with
               | succ i=>simp at hc
               | zero=>
                 simp only [List.getElem?_cons_zero,Option.bind_some] at hc
                 obtain ⟨u,hu,hru⟩:=hcs.get hc
                 simp only [List.getD_eq_getElem?_getD,hu,Option.getD_some]
                 exact (hru.th_clean0 (List.all_eq_true.1 hcl c (List.mem_of_getElem? hc)) th0).step (Goes.wider w hzz)
         · exact (hs j).step (Goes.wider w hzz)
       · have so:∀ j,(updM σ.m r none j).isSome=true→j≠r∧(σ.m j).isSome=true:=by
          intro j hj
          simp only [updM] at hj
          split at hj
          · cases hj
          · exact ⟨by assumption,hj⟩
         have hrs:(σ.m r).isSome=true:=by rw [hr]; rfl
         have hbr:bk (θ r) =some b:=by rw [hθ]; rfl
         refine ⟨?_,?_,?_,?_,hm.frame,λc h=> .inl (hm.zin c h),?_,hm.fix,⟨.inl hm.glb.1,hm.glb.2⟩⟩
         · intro j blk hj
           have hj0:updM σ.m r none j=some blk:=hj
           obtain ⟨hne,hjs⟩:=so j (by rw [hj0]; rfl)
           have hj':σ.m j=some blk:=by simpa [updM,hne] using hj0
           refine (hm.brep j blk hj').more hzz λc hc h=>?_
           rcases h with h | h
           · exact h
           · subst h; exact absurd (hm.disj j r c hjs hrs hc hbr) hne
         · intro j j' c h1 h2 h3 h4; exact hm.disj j j' c (so j h1).2 (so j' h2).2 h3 h4
         · intro j c h1 h2; exact hm.own j c (so j h1).2 h2
         · rintro c (h | h)
           · exact hm.zlt c h
           · subst h; exact Qn0 hheap
         · rintro c (h | h)
           · exact hm.znew c h
           · subst h
             rcases hm.own r c hrs hbr with h | h
             · exact .inr h
             · omega
     · exact h
   · exact h
 · exact hf
theorem unghost {I:Nat→LI} {K:Exit→St→Prop} {a:Act} {w:World}:∀ (rc:RC) {σ:St},evC Φ I rc σ K→BInv X N σ a w→
 ∃ rc0 σ0,(∀ (g:Bool) k b,rc0≠cond g (.ghost k b) (.cut k b))∧erase rc0=erase rc∧evC Φ I rc0 σ0 K∧BInv X N σ0 a w:=by
 intro rc
 induction rc with
 | ghost k b ih=>
   intro σ hev hb
   simp only [evC] at hev
   have hb':∀ (l:List Nat) {σ:St},BInv X N σ a w→BInv X N (frzL l σ) a w:=by
    intro l
    induction l with
    | nil=>intro σ h; exact h
    | cons r l ih=>intro σ h; exact ih (frz_binv r h)
   obtain ⟨rc0,σ0,h1,h2,h3,h4⟩:=ih hev (gh_binv hb (hb' _ hb))
   exact ⟨rc0,σ0,h1,by rw [h2]; rfl,h3,h4⟩
 | cut n b ih=>
   intro σ hev hb
   simp only [evC] at hev
   obtain ⟨i0,hi0,hR0,hround⟩:=hev
   obtain ⟨rc0,σ0,h1,h2,h3,h4⟩:=ih (hround i0 hR0) (ge_inv hi0 hb)
   exact ⟨rc0,σ0,h1,by rw [h2]; rfl,h3,h4⟩
 | _=>intro σ hev hb; exact ⟨_,σ,(by intro g k b h; cases g<;>cases h),rfl,hev,hb⟩
theorem Inv.re {Z:Nat→Prop} {w:World} {θ:Nat→Value} {W:List Nat} {σ:St} {tm:Array Value}(h:Inv X N False Z w θ W σ tm):Inv X N False Z w θ [] σ tm:=
 ⟨h.slot,h.mem,λk q y e=>absurd e ((h.nog.resolve_left id) k q y),h.nog,h.size⟩
theorem EvL_mono {Φ:Nat→Option Ctr}:∀ (T:List (Nat×RO×Res))(σ:St)(K K':St→Prop),(∀ σ,K σ→K' σ)→EvL Φ T σ K→EvL Φ T σ K'
 | [],σ,K,K',hk,h=>hk σ h
 | x::T,σ,K,K',hk,h=>by
   simp only [EvL] at h ⊢
   exact ⟨h.1,h.2.1,h.2.2.1,h.2.2.2.1,EvL_mono T _ _ _ hk h.2.2.2.2⟩
theorem phase_sound (hΦ:∀ f C,Φ f=some C→Sound P f C) {ops:Array Oper} {raw:List RO}(hc:compOps P dr ops ops.toList=some raw)(hok:okReg N [] raw=true)(hdr:okDraw raw (closeGo raw []) =true)
 (hnoG:∀ o∈closeGo raw [],o.guard=none) {Q:Exit→Act→World→Prop} {K:St→Prop} {lo top f0:Nat} {Tph:List (Nat×RO×Res)} (hT:∀ (i:Nat) (t:Nat×RO×Res),Tph[i]? =some t→t.1=lo+i∧(closeGo raw [])[lo+i]? =some t.2.1) (hTl:lo+Tph.length=top)
 (hbar:∀ (i:Nat) (o:RO),top≤i→(closeGo raw [])[i]? =some o→∀ m,lo≤m→m < top→m∈o.after)
 (hEnd:∀ (listed:Array Bool) (σ':St) (a':Act) (Z':Nat→Prop) (w':World) (θ':Nat→Value),listed.size=ops.size→(∀ i,i < ops.size→i < top→listed.getD i true=true)→(∀ i,i < ops.size→top≤i→listed.getD i true=false)→
  (∀ (i:Nat) (o:RO),(closeGo raw [])[i]? =some o→listed.getD i true=true→∀ e∈o.after,listed.getD e false=true)→K σ'→Inv X N False Z' w' θ' [] σ' a'.tmps→a'.defers= []→wpAny P .any ops Q f0 listed a' w'):
 ∀ (n:Nat) (listed:Array Bool) (T:List (Nat×RO×Res)) (σ:St) (a:Act) (Z:Nat→Prop) (w:World) (θ:Nat→Value),
   listed.size=ops.size→T.length=n→(∀ t,t∈T↔t∈Tph∧listed.getD t.1 true=false)→T.Pairwise (λx y=>x.1 < y.1)→(∀ i,i < ops.size→i < lo→listed.getD i true=true)→(∀ i,i < ops.size→top≤i→listed.getD i true=false)→
   (∀ (i:Nat) (o:RO),(closeGo raw [])[i]? =some o→listed.getD i true=true→∀ e∈o.after,listed.getD e false=true)→
   EvL Φ T σ (λσ'=>(∀ t∈T,∀ q∈t.2.2.post,q)→K σ')→cleanAll T σ→
   Inv X N False Z w θ [] σ a.tmps→a.defers= []→wpAny P .any ops Q (n+f0) listed a w:=by
 obtain ⟨hlen,hget⟩:=Zw0 hc
 have hrl:raw.length=ops.size:=by simpa using hlen
 have at_ :∀ (i:Nat) (oper:Oper),ops[i]? =some oper→∃ (io:IOp) (af:List Nat),compOp P dr (ownLit dr ops oper) oper=some io∧compGuard ops oper=some none∧(closeGo raw [])[i]? =some (⟨oper.dst,io,none,af⟩:RO)∧
  raw[i]? =some (⟨oper.dst,io,none,(oper.after.toList.filter λe=>Region.binds .any e).map (·.on)⟩:RO):=by
  intro i oper hi
  obtain ⟨io,g,h1,h2,h3⟩:=hget i oper (by simpa using hi)
  obtain ⟨af,h4⟩:=Zi0 raw [] i
  rw [h3] at h4
  simp only [Option.map_some] at h4
  have:=hnoG _ (List.mem_of_getElem? h4)
  simp only at this
  subst this
  exact ⟨io,af,h1,h2,h4,h3⟩
 have of_mem:∀ t∈Tph,lo≤t.1∧t.1 < top∧t.1 < ops.size∧Tph[t.1 - lo]? =some t∧(closeGo raw [])[t.1]? =some t.2.1:=by
  intro t ht
  obtain ⟨i,hi⟩:=List.getElem?_of_mem ht
  obtain ⟨h1,h2⟩:=hT i t hi
  have hlt:=(List.getElem?_eq_some_iff.1 hi).1
  have h3:=(List.getElem?_eq_some_iff.1 h2).1
  rw [Zh0,hrl] at h3
  refine ⟨by omega,by omega,by omega,by rw [h1,Nat.add_sub_cancel_left]; exact hi,by rw [h1]; exact h2⟩
 have in_ph:∀ i,lo≤i→i < top→∃ t∈Tph,t.1=i:=by
  intro i h1 h2
  have hlt:i - lo < Tph.length:=by omega
  obtain ⟨h3,_⟩:=hT (i - lo) _ (List.getElem?_eq_getElem hlt)
  exact ⟨_,List.getElem_mem hlt,by omega⟩
 have raw_of:∀ t∈Tph,∃ x,raw[t.1]? =some x∧x.dst=t.2.1.dst∧x.guard=t.2.1.guard∧x.op=t.2.1.op:=by
  intro t ht
  obtain ⟨af,h4⟩:=Zi0 raw [] t.1
  rw [(of_mem t ht).2.2.2.2] at h4
  obtain ⟨x,hx,h5⟩:=Option.map_eq_some_iff.1 h4.symm
  exact ⟨x,hx,by rw [← h5],by rw [← h5],by rw [← h5]⟩
 intro n
 induction n with
 | zero=>
   intro listed T σ a Z w θ hls hTn hTm hTp hl1 hl2 hcl hE hca inv hd
   have hT0:T= []:=List.length_eq_zero_iff.1 hTn
   subst hT0
   rw [Nat.zero_add]
   refine hEnd listed σ a Z w θ hls (λi hi h2=>?_) hl2 hcl (hE (by simp)) inv hd
   rcases Nat.lt_or_ge i lo with h1 | h1
   · exact hl1 i hi h1
   · obtain ⟨t,ht,rfl⟩:=in_ph i h1 h2
     cases hx:listed.getD t.1 true with
     | true=>rfl
     | false=>exact absurd ((hTm t).2 ⟨ht,hx⟩) (by simp)
 | succ n ih=>
   intro listed T σ a Z w θ hls hTn hTm hTp hl1 hl2 hcl hE hca inv hd
   rw [show n+1+f0=(n+f0)+1 by omega]
   have alldone:∀ (i:Nat) (oper:Oper),ops[i]? =some oper→(∀ e∈oper.after,Region.binds .any e=true→listed.getD e.on false=true)→∀ (o:RO),(closeGo raw [])[i]? =some o→∀ e∈o.after,listed.getD e false=true:=by
    intro i oper ho hready o hcl0 e he
    obtain ⟨io,af,h2,h3,h4,h5⟩:=at_ i oper ho
    have D:=Zr0 hdr hcl0
    obtain ⟨x,hx,hor⟩:=D.close e he
    rw [h5] at hx
    obtain rfl:=Option.some.inj hx
    have rawdone:∀ j∈(oper.after.toList.filter λe=>Region.binds .any e).map (·.on),listed.getD j false=true:=by
     intro j hj
     obtain ⟨e',he',rfl⟩:=List.mem_map.1 hj
     obtain ⟨he1,he2⟩:=List.mem_filter.1 he'
     exact hready e' (by simpa using he1) he2
    rcases hor with h | ⟨j,hj,y,hy,hey⟩
    · exact rawdone e h
    · have hjd:=rawdone j hj
      have hilt:=(Array.getElem?_eq_some_iff.1 ho).1
      have hjlt:j < i:=D.rawlt _ h5 j hj
      exact hcl j y hy (by rw [← Qs0 (by omega)]; exact hjd) e hey
   constructor
   · intro hr
     exfalso
     cases T with
     | nil=>simp at hTn
     | cons t T=>
       obtain ⟨htA,htl⟩:=(hTm t).1 (by simp)
       obtain ⟨hlo,htop,hlt,hgt,hclt⟩:=of_mem t htA
       obtain ⟨oper,ho⟩:∃ oper,ops[t.1]? =some oper:=⟨_,Array.getElem?_eq_getElem hlt⟩
       have : t.1∈Region.ready .any ops listed:=by
        refine mem_ready.2 ⟨htl,oper,ho,λe he hb=>?_⟩
        obtain ⟨io,af,h2,h3,h4,h5⟩:=at_ t.1 oper ho
        have D:=Zr0 hdr h4
        have hem:e.on∈((oper.after.toList.filter λe=>Region.binds .any e).map (·.on)):=by
         refine List.mem_map.2 ⟨e,List.mem_filter.2 ⟨by simpa using he,hb⟩,rfl⟩
        have hel:=D.rawlt _ h5 e.on hem
        have helt:e.on < listed.size:=by omega
        rw [Qs0 helt]
        rcases Nat.lt_or_ge e.on lo with h1 | h1
        · exact hl1 e.on (by omega) h1
        · cases hx:listed.getD e.on true with
          | true=>rfl
          | false=>
            exfalso
            obtain ⟨t',ht',hte⟩:=in_ph e.on h1 (by omega)
            have h7:=(hTm t').2 ⟨ht',by rw [hte]; exact hx⟩
            rcases List.mem_cons.1 h7 with h8 | h8
            · rw [h8] at hte; omega
            · have:=(List.pairwise_cons.1 hTp).1 _ h8
              omega
       rw [hr] at this; cases this
   · intro i hi
     obtain ⟨h0,oper,ho,hready⟩:=mem_ready.1 hi
     have hilt:i < ops.size:=(Array.getElem?_eq_some_iff.1 ho).1
     obtain ⟨io,af,h2,h3,h4,h5⟩:=at_ i oper ho
     have D:=Zr0 hdr h4
     have hdone:=alldone i oper ho hready _ h4
     have hitop:i < top:=by
      rcases Nat.lt_or_ge i top with h | h
      · exact h
      · exfalso
        cases T with
        | nil=>simp at hTn
        | cons t T=>
          obtain ⟨htA,htl⟩:=(hTm t).1 (by simp)
          obtain ⟨hlo,htop,hlt,_⟩:=of_mem t htA
          have:=hdone t.1 (hbar i _ h h4 t.1 hlo htop)
          rw [Qs0 (by omega),htl] at this
          cases this
     have hilo:lo≤i:=by
      rcases Nat.lt_or_ge i lo with h | h
      · rw [hl1 i hilt h] at h0; cases h0
      · exact h
     obtain ⟨t0,ht0,hti⟩:=in_ph i hilo hitop
     obtain ⟨r,rfl⟩:∃ r,t0=(i,(⟨oper.dst,io,none,af⟩:RO),r):=by
      have:=(of_mem t0 ht0).2.2.2.2
      rw [hti,h4] at this
      obtain ⟨n0,o0,r0⟩:=t0
      simp only at hti this
      subst hti
      exact ⟨r0,by rw [Option.some.inj this]⟩
     have hmem:=(hTm _).2 ⟨ht0,h0⟩
     obtain ⟨A,B,rfl⟩:=List.append_of_mem hmem
     obtain ⟨pA,pB,pAB⟩:=List.pairwise_append.1 hTp
     obtain ⟨pB1,pB2⟩:=List.pairwise_cons.1 pB
     have hundone:∀ t∈A,af.contains t.1=false:=by
      intro t ht
      cases hx:af.contains t.1 with
      | false=>rfl
      | true=>
        have h6:=hdone t.1 (by simpa using hx)
        obtain ⟨h7,h8⟩:=(hTm t).1 (by simp [ht])
        rw [Qs0 (by rw [hls]; exact (of_mem t h7).2.2.1),h8] at h6
        cases h6
     obtain ⟨g1,g2,g3,g4,g5⟩:=EvL_front A σ hE hca (by
      intro t ht
      have htT:=((hTm t).1 (by simp [ht])).1
      have hlt:t.1 < i:=pAB t ht _ (List.mem_cons_self ..)
      refine ⟨hundone t ht,?_,?_⟩
      · obtain ⟨x,hx,hap⟩:=D.apart t.1 hlt (hundone t ht)
        rw [(of_mem t htT).2.2.2.2] at hx
        obtain rfl:=Option.some.inj hx
        exact hap
      · intro k hk
        obtain ⟨x,hx,hxd,_⟩:=raw_of t htT
        exact (Zm0 hok i _ h5).2 t.1 x k hlt hx (hxd.trans hk))
     have hdst:=(Zm0 hok i _ h5).1
     have hAB:∀ t,t∈A ++ B↔t∈Tph∧(listed.setIfInBounds i true).getD t.1 true=false:=by
      intro t
      constructor
      · intro ht
        have htT:t∈A ++ (i,(⟨oper.dst,io,none,af⟩:RO),r)::B:=by
         rcases List.mem_append.1 ht with h | h
         · exact List.mem_append_left _ h
         · exact List.mem_append_right _ (List.mem_cons_of_mem _ h)
        obtain ⟨h6,h7⟩:=(hTm t).1 htT
        have hne:i≠t.1:=by
         rcases List.mem_append.1 ht with h | h
         · have:=pAB t h _ (List.mem_cons_self ..); simp only at this; omega
         · have:=pB1 t h; simp only at this; omega
        exact ⟨h6,by rw [Go.getD_set_ne true hne]; exact h7⟩
      · rintro ⟨h6,h7⟩
        have hne:i≠t.1:=by
         rintro rfl
         simp [hls,hilt] at h7
        rw [Go.getD_set_ne true hne] at h7
        have:=(hTm t).2 ⟨h6,h7⟩
        rcases List.mem_append.1 this with h | h
        · exact List.mem_append_left _ h
        · rcases List.mem_cons.1 h with h | h
          · exact absurd (by rw [h]) hne
          · exact List.mem_append_right _ h
     have fin:=opR_sound hΦ (X:=X) (N:=N) (ops:=ops) (o:=oper) (af:=af) inv h2 h3 (by rintro s b ⟨⟩) (hdst.imp (λ⟨e1,e2,e3⟩=>⟨e1,e2,e3⟩) (λ⟨d,e1,e2,e3,e4⟩=>⟨d,e1,by simp,e3,e4⟩)) g1 g2 (wpAny P .any ops Q (n+f0) (listed.setIfInBounds i true)) Q (by
      intro v Z' w' θ' hg hpost hinv
      refine ih (listed.setIfInBounds i true) (A ++ B) _ _ Z' w' θ' (by simpa using hls) ?_ hAB ?_ ?_ ?_ ?_ ?_ g5 hinv.re ?_
      · simp at hTn ⊢; omega
      · exact List.pairwise_append.2 ⟨pA,pB2,λx hx y hy=>pAB x hx y (List.mem_cons_of_mem _ hy)⟩
      · intro k hk hlt
        rw [Go.getD_set_ne true (by omega)]
        exact hl1 k hk hlt
      · intro k hk hge
        rw [Go.getD_set_ne true (by omega)]
        exact hl2 k hk hge
      · intro k o hko htl e he
        by_cases hki:k=i
        · subst hki
          rw [h4] at hko
          obtain rfl:=Option.some.inj hko
          exact getD_set_true (hdone e he)
        · rw [Go.getD_set_ne true (λe=>hki e.symm)] at htl
          exact getD_set_true (hcl k o hko htl e he)
      · refine EvL_mono _ _ _ _ (λσ' hk hp=>hk λt ht=>?_) g4
        rcases List.mem_append.1 ht with h | h
        · exact hp t (List.mem_append_left _ h)
        · rcases List.mem_cons.1 h with rfl | h
          · exact hpost
          · exact hp t (List.mem_append_right _ h)
      · cases oper.dst<;>exact hd)
     unfold wpOp
     simp only [ho]
     split
     · rename_i hw
       rw [if_pos hw] at fin
       exact .inl fin
     · rename_i hw
       rw [if_neg hw] at fin
       exact fin
theorem bar_sound (hmix:P.follows .mixedOrders=true)(hΦ:∀ f C,Φ f=some C→Sound P f C) {id:Nat} {ops:Array Oper} {raw:List RO}(hc:compOps P true ops ops.toList=some raw)(hok:okReg N [] raw=true)(hdr:okDraw raw (closeGo raw []) =true)
 {l1 l2:List RO} {o0:RO} (hcl:closeGo raw [] =l1 ++ o0::l2) {σ:St} {K:St→Prop} (hev:evBar Φ l1 o0 l2 σ K) {Q:Exit→Act→World→Prop} (hQ:∀ σ' a w,K σ'→BInv X N σ' a w→Q .normal a w) {a:Act} {w:World} (hb:BInv X N σ a w):(Code.region id ops true).wp P Q a w:=by
 obtain ⟨hbar,hev⟩:=hev
 simp only [barOK,Bool.and_eq_true] at hbar
 obtain ⟨hg1,hg2,hg0,hw0,hw2⟩:=hbar
 obtain ⟨hlen,hget⟩:=Zw0 hc
 have hrl:raw.length=ops.size:=by simpa using hlen
 have hsz0:l1.length+1+l2.length=ops.size:=by
  have:=congrArg List.length hcl
  rw [Zh0,hrl] at this
  simp at this; omega
 have hnoG:∀ o∈closeGo raw [],o.guard=none:=by
  intro o ho
  rw [hcl] at ho
  rcases List.mem_append.1 ho with h | h
  · have:=List.all_eq_true.1 hg1 o h
    simpa using this
  · rcases List.mem_cons.1 h with rfl | h
    · simpa using hg0
    · have:=List.all_eq_true.1 hg2 o h
      simpa using this
 have get1:∀ i,i < l1.length→(closeGo raw [])[i]? =l1[i]?:=by
  intro i hi; rw [hcl,List.getElem?_append_left hi]
 have get0:(closeGo raw [])[l1.length]? =some o0:=by rw [hcl]; simp
 have get2:∀ i,(closeGo raw [])[l1.length+1+i]? =l2[i]?:=by
  intro i
  rw [hcl,List.getElem?_append_right (by omega),show l1.length+1+i - l1.length=i+1 by omega,List.getElem?_cons_succ]
 have wait2:∀ (i:Nat) (o:RO),l1.length+1≤i→(closeGo raw [])[i]? =some o→∀ m,m < l1.length+1→m∈o.after:=by
  intro i o hi ho m hm
  obtain ⟨j,rfl⟩:∃ j,i=l1.length+1+j:=⟨i - (l1.length+1),by omega⟩
  rw [get2] at ho
  have:=List.all_eq_true.1 hw2 o (List.mem_of_getElem? ho)
  simp only [waitsAll,List.all_eq_true,List.mem_range] at this
  simpa using this m hm
 have wait0:∀ m,m < l1.length→m∈o0.after:=by
  intro m hm
  simp only [waitsAll,List.all_eq_true,List.mem_range] at hw0
  simpa using hw0 m hm
 have clean_of:∀ (l:List RO) (T:List (Nat×RO×Res)) (σ:St) (K:St→Prop),T.map (·.2.1) =l→EvL Φ T (preK l σ) K→cleanAll T (preK l σ):=by
  intro l T σ K hTl hE t ht
  unfold cleanN
  split
  · rename_i nb bb d hb' hd'
    have hok':=EvL_newOK T _ hE t ht
    unfold newOK at hok'
    rw [hb',hd'] at hok'
    obtain ⟨hnb,_⟩:=hok'
    subst hnb
    refine preK_clean _ _ t.2.1 (by rw [← hTl]; exact List.mem_map.2 ⟨t,ht,rfl⟩) hd' ?_
    exact EvL_new T _ hE t ht (by rw [hb']; rfl)
  · trivial
 obtain ⟨T1,hT1,hi1,_,hE1⟩:=evD_EvL _ _ _ _ hev
 have hT1l:T1.length=l1.length:=by rw [← hT1,List.length_map]
 obtain ⟨Z,θ,hs,hm,hsz,hd⟩:=preK_inv l1 hb
 have inv:Inv X N False Z w θ [] (preK l1 σ) a.tmps:=⟨λk=> .of_rep (hs k),hm,λk q y h=>absurd h (Qt0 (hs k) q y),.inr λk q y=>Qt0 (hs k) q y,hsz⟩
 refine wp_region_any hmix ?_
 have inv':Inv X N False Z {w with drawn:=w.drawn+1} θ [] (preK l1 σ) a.tmps:=inv.drew
 have hfuel:ops.size=T1.length+(1+l2.length):=by omega
 rw [hfuel]
 refine phase_sound hΦ (X:=X) (N:=N) hc hok hdr hnoG (K:=kBar1 Φ l1.length o0 l2 K) (lo:=0) (top:=l1.length) (Tph:=T1) ?_ (by omega) ?_ ?_ T1.length _ T1 _ a Z _ θ (by simp [hfuel]) rfl ?_ ?_ (by intro i _ h; omega) ?_ ?_ ?_ (clean_of l1 T1 σ _ hT1 hE1) inv' hd
 · intro i t hi
   have h1:=hi1 i t hi
   have hlt:i < l1.length:=by rw [← hT1l]; exact (List.getElem?_eq_some_iff.1 hi).1
   refine ⟨h1,?_⟩
   rw [Nat.zero_add,get1 i hlt,← hT1,List.getElem?_map,hi]; rfl
 · intro i o hi ho m _ hm
   rcases Nat.lt_or_ge l1.length i with h | h
   · exact wait2 i o (by omega) ho m (by omega)
   · have:i=l1.length:=by omega
     subst this
     rw [get0] at ho
     obtain rfl:=Option.some.inj ho
     exact wait0 m hm
 ·
  intro listed σ1 a1 Z1 w1 θ1 hls hl1 hl2 hcl1 hk1 inv1 hd1
  rw [show 1+l2.length=l2.length+1 by omega]
  have ready_only:∀ i∈Region.ready .any ops listed,i=l1.length:=by
   intro i hi
   obtain ⟨h0,oper,ho,hready⟩:=mem_ready.1 hi
   have hilt:i < ops.size:=(Array.getElem?_eq_some_iff.1 ho).1
   rcases Nat.lt_trichotomy i l1.length with h | h | h
   · rw [hl1 i hilt h] at h0; cases h0
   · exact h
   · exfalso
     obtain ⟨io,g,c1,c2,c3⟩:=hget i oper (by simpa using ho)
     obtain ⟨af,h4⟩:=Zi0 raw [] i
     rw [c3] at h4
     simp only [Option.map_some] at h4
     have hmem:=wait2 i _ (by omega) h4 l1.length (by omega)
     have D:=Zr0 hdr h4
     obtain ⟨x,hx,hor⟩:=D.close l1.length hmem
     rw [c3] at hx
     obtain rfl:=Option.some.inj hx
     have rawdone:∀ j∈(oper.after.toList.filter λe=>Region.binds .any e).map (·.on),listed.getD j false=true:=by
      intro j hj
      obtain ⟨e',he',rfl⟩:=List.mem_map.1 hj
      obtain ⟨he1,he2⟩:=List.mem_filter.1 he'
      exact hready e' (by simpa using he1) he2
     have hl:listed.getD l1.length false=true:=by
      rcases hor with h' | ⟨j,hj,y,hy,hey⟩
      · exact rawdone _ h'
      · have hjlt:j < i:=D.rawlt _ c3 j hj
        exact hcl1 j y hy (by rw [← Qs0 (by omega)]; exact rawdone j hj) _ hey
     rw [Qs0 (by omega),hl2 l1.length (by omega) (Nat.le_refl _)] at hl
     cases hl
  have hlt0:l1.length < ops.size:=by omega
  obtain ⟨oper,ho⟩:∃ oper,ops[l1.length]? =some oper:=⟨_,Array.getElem?_eq_getElem hlt0⟩
  obtain ⟨io,g,c1,c2,c3⟩:=hget l1.length oper (by simpa using ho)
  obtain ⟨af,h4⟩:=Zi0 raw [] l1.length
  rw [c3] at h4
  simp only [Option.map_some] at h4
  have hgn:=hnoG _ (List.mem_of_getElem? h4)
  simp only at hgn
  subst hgn
  have ho0:o0= ⟨oper.dst,io,none,af⟩:=by
   rw [get0] at h4; exact Option.some.inj h4
  have hD:=Zr0 hdr h4
  have hin:l1.length∈Region.ready .any ops listed:=by
   refine mem_ready.2 ⟨hl2 _ hlt0 (Nat.le_refl _),oper,ho,λe he hb'=>?_⟩
   have hem:e.on∈((oper.after.toList.filter λe=>Region.binds .any e).map (·.on)):=by
    refine List.mem_map.2 ⟨e,List.mem_filter.2 ⟨by simpa using he,hb'⟩,rfl⟩
   have hel:=hD.rawlt _ c3 e.on hem
   rw [Qs0 (by omega)]
   exact hl1 _ (by omega) hel
  refine ⟨λhr=>by rw [hr] at hin; (cases hin),λi hi=>?_⟩
  have hii:=ready_only i hi
  subst hii
  unfold wpOp
  simp only [ho]
  have hog:oper.guard=none:=by
   unfold compGuard at c2
   split at c2
   · assumption
   · split at c2<;>cases c2
  rw [if_pos (by simp [Region.wanted,hog])]
  left
  have hdst:=(Zm0 hok l1.length _ c3).1
  unfold kBar1 at hk1
  rw [ho0] at hk1
  refine op1_sound hΦ (X:=X) (N:=N) inv1 c1 (hdst.imp (λ⟨e1,_,e3⟩=>⟨e1,e3⟩) (λ⟨d,e1,_,_,e4⟩=>⟨d,e1,e4⟩)) hk1 ?_
  intro v σ2 Z2 w2 θ2 hk2 inv2
  unfold kBar2 at hk2
  obtain ⟨T2,hT2,hi2,_,hE2⟩:=evD_EvL _ _ _ _ hk2
  have hT2l:T2.length=l2.length:=by rw [← hT2,List.length_map]
  have hd2:(a1.put oper.dst v).defers= []:=by cases oper.dst<;>exact hd1
  obtain ⟨Z3,θ3,hs3,hm3,hsz3,_⟩:=preK_inv l2 (inv2.binv hd2)
  have inv3:Inv X N False Z3 w2 θ3 [] (preK l2 σ2) (a1.put oper.dst v).tmps:=⟨λk=> .of_rep (hs3 k),hm3,λk q y h=>absurd h (Qt0 (hs3 k) q y),.inr λk q y=>Qt0 (hs3 k) q y,hsz3⟩
  rw [show l2.length=T2.length+0 by omega]
  refine phase_sound hΦ (X:=X) (N:=N) hc hok hdr hnoG (K:=K) (lo:=l1.length+1) (top:=ops.size) (Tph:=T2) ?_ (by omega) ?_ ?_ T2.length _ T2 _ _ Z3 _ θ3 (by simpa using hls) rfl ?_ ?_ ?_ ?_ ?_ ?_ (clean_of l2 T2 σ2 _ hT2 hE2) inv3 hd2
  · intro i t hi
    have h1:=hi2 i t hi
    refine ⟨h1,?_⟩
    rw [get2 i,← hT2,List.getElem?_map,hi]; rfl
  · intro i o hi ho
    have:=(List.getElem?_eq_some_iff.1 ho).1
    rw [Zh0,hrl] at this
    omega
  · intro listed' σ' a' Z' w' θ' hls' hl1' hl2' hcl' hk' inv'' hd''
    refine ⟨?_,hQ _ _ _ hk' (inv''.binv hd'')⟩
    refine List.eq_nil_iff_forall_not_mem.2 λi hi=>?_
    obtain ⟨h0,oper',ho',_⟩:=mem_ready.1 hi
    have hilt:i < ops.size:=(Array.getElem?_eq_some_iff.1 ho').1
    rw [hl1' i hilt hilt] at h0; cases h0
  · intro t
    refine ⟨λht=>⟨ht,?_⟩,λh=>h.1⟩
    obtain ⟨i,hi⟩:=List.getElem?_of_mem ht
    have h1:=hi2 i t hi
    have hlt:=(List.getElem?_eq_some_iff.1 hi).1
    rw [Go.getD_set_ne true (by omega)]
    exact hl2 _ (by omega) (by omega)
  · refine List.pairwise_iff_getElem.2 λi j hi hj hij=>?_
    rw [hi2 i _ (List.getElem?_eq_getElem hi),hi2 j _ (List.getElem?_eq_getElem hj)]
    omega
  · intro i hi hlt
    by_cases h:i=l1.length
    · subst h
      simp [hls,hlt0]
    · rw [Go.getD_set_ne true (λe=>h e.symm)]
      exact hl1 i hi (by omega)
  · intro i hi hge; omega
  · intro i o hio hil e he
    by_cases h:i=l1.length
    · subst h
      have D:=Zr0 hdr hio
      have hlt:=D.lt e he
      refine getD_set_true ?_
      rw [Qs0 (by omega)]
      exact hl1 e (by omega) hlt
    · rw [Go.getD_set_ne true (λe=>h e.symm)] at hil
      exact getD_set_true (hcl1 i o hio hil e he)
  · exact EvL_mono _ _ _ _ (λσ' hk hp=>hk hp (by simp)) hE2
 · intro t
   refine ⟨λht=>⟨ht,?_⟩,λh=>h.1⟩
   obtain ⟨i,hi⟩:=List.getElem?_of_mem ht
   have h1:=hi1 i t hi
   have hlt:=(List.getElem?_eq_some_iff.1 hi).1
   have hlt':t.1 < ops.size:=by omega
   have hlt'':t.1 < T1.length+(1+l2.length):=by omega
   simp [hlt'']
 · refine List.pairwise_iff_getElem.2 λi j hi hj hij=>?_
   rw [hi1 i _ (List.getElem?_eq_getElem hi),hi1 j _ (List.getElem?_eq_getElem hj)]
   omega
 · intro i hi hge
   have hi':i < T1.length+(1+l2.length):=by omega
   simp [hi']
 · intro i o hio hil e he
   have hlt:=(List.getElem?_eq_some_iff.1 hio).1
   rw [Zh0,hrl] at hlt
   have hi':i < T1.length+(1+l2.length):=by omega
   simp [hi'] at hil
 · exact EvL_mono _ _ _ _ (λσ' hk hp=>hk hp (by simp)) hE1
theorem code_sound (hmix:P.follows .mixedOrders=true)(hΦ:∀ f C,Φ f=some C→Sound P f C)(I:Nat→LI):∀ (c:Code)(rc:RC),comp P N c=some (erase rc)→∀ (σ:St)(K:Exit→St→Prop)(Q:Exit→Act→World→Prop),evC Φ I rc σ K→
 (∀ e σ' a w,K e σ'→BInv X N σ' a w→Q e a w)→∀ a w,BInv X N σ a w→c.wp P Q a w:=by
 intro c
 induction c with
 | skip=>
   intro rc hc σ K Q hev hQ a w hb
   obtain ⟨rc,σ,hng,he,hev,hb⟩:=unghost rc hev hb
   rw [← he] at hc
   clear he
   simp only [comp] at hc
   cases rc<;>(try exact absurd rfl (hng true _ _))<;>(try exact absurd rfl (hng false _ _))<;>simp [erase] at hc
   exact wp_skip (hQ _ _ _ _ hev hb)
 | region id ops draw=>
   intro rc hc σ K Q hev hQ a w hb
   obtain ⟨rc,σ,hng,he,hev,hb⟩:=unghost rc hev hb
   rw [← he] at hc
   clear he
   simp only [comp] at hc
   split at hc
   rotate_left
   · split at hc
     · cases hc
     · rename_i hd
       have hdf:draw=false:=by simpa using hd
       subst hdf
       refine wp_region_list ?_
       obtain ⟨m,es,sa,sb,x,sc,sd,e⟩:=compM_mreg hc
       have:rc= .mreg m es sa sb x sc sd:=by
        cases rc<;>(try exact absurd rfl (hng true _ _))<;>(try exact absurd rfl (hng false _ _))<;>simp [erase] at e
        obtain ⟨rfl,rfl,rfl,rfl,rfl,rfl,rfl⟩:=e
        rfl
       subst this
       exact mreg_sound hc hev hb hQ
   rename_i rl hrl
   split at hc<;>try (cases hc; done)
   rename_i hok
   cases draw with
   | true =>
     simp only [drawn] at hc
     split at hc<;>try (cases hc; done)
     rename_i hdr
     suffices core:(∃ T:List (Nat×RO×Res),T.map (·.2.1) =closeGo rl []∧(∀ i t,T[i]? =some t→t.1=0+i)∧EvL Φ T (preK (closeGo rl []) σ) (λσ'=>(∀ t∈T,∀ q∈t.2.2.post,q)→(∀ x∈([]:List (Nat×Option Nat×Res)),∀ q∈x.2.2.post,q)→kEnd (closeGo rl []) K σ'))→(Code.region id ops true).wp P Q a w by
      cases rc<;>(try exact absurd rfl (hng true _ _))<;>(try exact absurd rfl (hng false _ _))<;>simp [erase] at hc
      case splitD l=>
       subst hc
       obtain ⟨T,h1,h2,_,h4⟩:=evDS_EvL _ _ _ _ hev
       exact core ⟨T,h1,h2,h4⟩
      case bar l1 o0 l2=>
       exact bar_sound hmix hΦ hrl hok hdr hc hev (λσ' a w hk hb=>hQ _ _ _ _ hk hb) hb
      obtain ⟨rfl,rfl⟩:=hc
      obtain ⟨T,h1,h2,_,h4⟩:=evD_EvL _ _ _ _ hev
      exact core ⟨T,h1,h2,h4⟩
     rintro ⟨T,hT,hidx,hE⟩
     clear hev hng hc
     obtain ⟨Z,θ,hs,hm,hsz,hd⟩:=preK_inv (closeGo rl []) hb
     have inv:Inv X N (hasG (closeGo rl []) =true) Z w θ [] (preK (closeGo rl []) σ) a.tmps:=⟨λk=> .of_rep (hs k),hm,λk q y h=>absurd h (Qt0 (hs k) q y),.inr λk q y=>Qt0 (hs k) q y,hsz⟩
     have hTl:T.length=ops.size:=by
      have:=congrArg List.length hT
      simpa [Zh0,(Zw0 hrl).1] using this
     have hidx':∀ (i:Nat) (t:Nat×RO×Res),T[i]? =some t→t.1=i:=λi t h=>by have:=hidx i t h; omega
     refine wp_region_any hmix ?_
     have hinv':Inv X N (hasG (closeGo rl []) =true) Z {w with drawn:=w.drawn+1} θ [] (preK (closeGo rl []) σ) a.tmps:=inv.drew
     refine any_sound hΦ (X:=X) (N:=N) hrl hok hdr (G:=hasG (closeGo rl []) =true) (K:=kEnd (closeGo rl []) K) ?_ hT hidx' ?_ ops.size _ T _ a Z _ θ [] (by simp) hTl ?_ ?_ ?_ ?_ ?_ hinv' hd (by simp) ?_
     · intro o ho hg
       unfold hasG
       exact List.any_eq_true.2 ⟨o,ho,hg⟩
     · intro σ' a' Z' w' θ' W' hk inv' hd'
       exact hQ _ _ _ _ hk (endR_inv inv' hd')
     · intro t
       refine ⟨λht=>⟨ht,?_⟩,λh=>h.1⟩
       obtain ⟨i,hi⟩:=List.getElem?_of_mem ht
       have h1:=hidx' i t hi
       have h2:i < ops.size:=by rw [← hTl]; exact (List.getElem?_eq_some_iff.1 hi).1
       rw [h1]; simp [h2]
     · refine List.pairwise_iff_getElem.2 λi j hi hj hij=>?_
       rw [hidx' i _ (List.getElem?_eq_getElem hi),hidx' j _ (List.getElem?_eq_getElem hj)]
       exact hij
     · intro t ht htl
       obtain ⟨i,hi⟩:=List.getElem?_of_mem ht
       have h1:=hidx' i t hi
       have h2:i < ops.size:=by rw [← hTl]; exact (List.getElem?_eq_some_iff.1 hi).1
       rw [h1] at htl; simp [h2] at htl
     · have mono:∀ (T:List (Nat×RO×Res)) (σ:St) (K K':St→Prop),(∀ σ,K σ→K' σ)→EvL Φ T σ K→EvL Φ T σ K':=by
        intro T
        induction T with
        | nil=>intro σ K K' hk h; exact hk σ h
        | cons x T ih=>
          intro σ K K' hk h
          simp only [EvL] at h ⊢
          exact ⟨h.1,h.2.1,h.2.2.1,h.2.2.2.1,ih _ _ _ hk h.2.2.2.2⟩
       exact mono _ _ _ _ (λσ' hk hp=>hk hp (by simp)) hE
     · intro t ht
       unfold cleanN
       split
       · rename_i nb bb d hb' hd'
         have hok':=EvL_newOK T _ hE t ht
         unfold newOK at hok'
         rw [hb',hd'] at hok'
         obtain ⟨hnb,_⟩:=hok'
         subst hnb
         obtain ⟨i,hi⟩:=List.getElem?_of_mem ht
         have hcl:(closeGo rl [])[i]? =some t.2.1:=by rw [← hT,List.getElem?_map,hi]; rfl
         refine preK_clean _ _ t.2.1 (List.mem_of_getElem? hcl) hd' ?_
         exact EvL_new T _ hE t ht (by rw [hb']; rfl)
       · trivial
     · intro t ht htl
       obtain ⟨i,hi⟩:=List.getElem?_of_mem ht
       have h1:=hidx' i t hi
       have h2:i < ops.size:=by rw [← hTl]; exact (List.getElem?_eq_some_iff.1 hi).1
       rw [h1] at htl; simp [h2] at htl
   | false=>
     cases rc<;>(try exact absurd rfl (hng true _ _))<;>(try exact absurd rfl (hng false _ _))<;>simp [erase] at hc
     case split l=>
      subst hc
      simp only [evC] at hev
      obtain ⟨Z,θ,hs,hm,hsz,hd⟩:=hb
      have inv:Inv X N False Z w θ [] σ a.tmps:=⟨λk=> .of_rep (hs k),hm,λk q y h=>absurd h (Qt0 (hs k) q y),.inr λk q y=>Qt0 (hs k) q y,hsz⟩
      refine wp_region_list ?_
      refine opsS_sound hΦ (X:=X) (N:=N) ops.toList rl [] hrl hok σ a Z w θ inv hd hev ?_
      intro σ' a' Z' w' θ' hk inv' hd'
      exact hQ _ _ _ _ hk (inv'.binv hd')
     obtain ⟨rfl,rfl⟩:=hc
     simp only [evC] at hev
     obtain ⟨Z,θ,hs,hm,hsz,hd⟩:=hb
     have inv:Inv X N (hasG rl=true) Z w θ [] σ a.tmps:=⟨λk=> .of_rep (hs k),hm,λk q y h=>absurd h (Qt0 (hs k) q y),.inr λk q y=>Qt0 (hs k) q y,hsz⟩
     refine wp_region_list ?_
     refine ops_sound hΦ (X:=X) (N:=N) ops.toList rl [] hrl hok ?_ σ a Z w θ inv hd hev ?_
     · intro o ho hg
       unfold hasG
       exact List.any_eq_true.2 ⟨o,ho,hg⟩
     · intro σ' a' Z' w' θ' W' hk inv' hd'
       exact hQ _ _ _ _ hk (endR_inv inv' hd')
 | seq c1 c2 ih1 ih2=>
   intro rc hc σ K Q hev hQ a w hb
   obtain ⟨rc,σ,hng,he,hev,hb⟩:=unghost rc hev hb
   rw [← he] at hc
   clear he
   simp only [comp] at hc
   split at hc<;>try (cases hc; done)
   rename_i r1 r2 h1 h2
   cases rc<;>(try exact absurd rfl (hng true _ _))<;>(try exact absurd rfl (hng false _ _))<;>simp [erase] at hc
   rename_i x y
   obtain ⟨rfl,rfl⟩:=hc
   simp only [evC] at hev
   refine wp_seq (ih1 x h1 σ _ _ hev ?_ a w hb)
   intro e σ' a' w' hk hb'
   cases e with
   | normal=>exact ih2 y h2 σ' K Q hk hQ a' w' hb'
   | exit i=>exact hQ _ _ _ _ hk hb'
   | goto l=>exact hQ _ _ _ _ hk hb'
   | ret=>exact hQ _ _ _ _ hk hb'
   | panic ch=>exact hQ _ _ _ _ hk hb'
   | outgrown=>exact hQ _ _ _ _ hk hb'
 | cond cc t e iht ihe=>
   intro rc hc σ K Q hev hQ a w hb
   obtain ⟨rc,σ,hng,he,hev,hb⟩:=unghost rc hev hb
   rw [← he] at hc
   clear he
   simp only [comp] at hc
   split at hc<;>try (cases hc; done)
   rename_i c' t' e' h0 h1 h2
   cases rc<;>(try exact absurd rfl (hng true _ _))<;>(try exact absurd rfl (hng false _ _))<;>simp [erase] at hc
   rename_i x y z
   obtain ⟨rfl,rfl,rfl⟩:=hc
   simp only [evC] at hev
   split at hev<;>try (exact hev.elim)
   · rename_i b hbb
     obtain ⟨Z,θ,hs,hm,hsz,hd⟩:=hb
     have hev':a.eval cc= .bool b:=by
      have:=av_rep (Z:=Z) (w:=w) (θ:=θ) (a:=a) (σ:=σ) (p:=[]) (λk=> .of_rep (hs k)) (by intro q hq; cases hq) h0 (y:= .bool b) (by simp [av,hbb,gv])
      generalize a.eval cc=v at this
      cases this; rfl
     refine wp_cond_split hev' (λhbt=>?_) (λhbf=>?_)
     · exact iht y h1 σ K Q (hev.1 hbt) hQ a w ⟨Z,θ,hs,hm,hsz,hd⟩
     · exact ihe z h2 σ K Q (hev.2 hbf) hQ a w ⟨Z,θ,hs,hm,hsz,hd⟩
   · rename_i b hbb
     obtain ⟨Z,θ,hs,hm,hsz,hd⟩:=hb
     have hev':∃ b',a.eval cc= .bool b'∧(b'=true→b=true):=by
      have:=av_rep (Z:=Z) (w:=w) (θ:=θ) (a:=a) (σ:=σ) (p:=[]) (λk=> .of_rep (hs k)) (by intro q hq; cases hq) h0 (y:= .nb b) (by simp [av,hbb,gv])
      generalize a.eval cc=v at this
      cases this
      exact ⟨_,rfl,by assumption⟩
     obtain ⟨b',hev',hbi⟩:=hev'
     refine wp_cond_split hev' (λhbt=>?_) (λhbf=>?_)
     · exact iht y h1 σ K Q (hev.1 (hbi hbt)) hQ a w ⟨Z,θ,hs,hm,hsz,hd⟩
     · exact ihe z h2 σ K Q hev.2 hQ a w ⟨Z,θ,hs,hm,hsz,hd⟩
 | block id b ih=>
   intro rc hc σ K Q hev hQ a w hb
   obtain ⟨rc,σ,hng,he,hev,hb⟩:=unghost rc hev hb
   rw [← he] at hc
   clear he
   simp only [comp] at hc
   split at hc<;>try (cases hc; done)
   rename_i r1 h1
   cases rc<;>(try exact absurd rfl (hng true _ _))<;>(try exact absurd rfl (hng false _ _))<;>simp [erase] at hc
   rename_i i x
   obtain ⟨rfl,rfl⟩:=hc
   simp only [evC] at hev
   refine wp_block (ih x h1 σ _ _ hev ?_ a w hb)
   intro e σ' a' w' hk hb'
   cases e with
   | exit i=>
     simp only [kBlk] at hk
     simp only [Exit.inBlock]
     split
     · rename_i hi
       subst hi
       simp only [beq_self_eq_true] at hk
       exact hQ _ _ _ _ hk hb'
     · rename_i hi
       have:(i == id) =false:=by simpa using hi
       rw [this] at hk
       exact hQ _ _ _ _ hk hb'
   | normal=>exact hQ _ _ _ _ hk hb'
   | goto l=>exact hQ _ _ _ _ hk hb'
   | ret=>exact hQ _ _ _ _ hk hb'
   | panic ch=>exact hQ _ _ _ _ hk hb'
   | outgrown=>exact hQ _ _ _ _ hk hb'
 | loop b ih=>
   intro rc hc σ K Q hev hQ a w hb
   obtain ⟨rc,σ,hng,he,hev,hb⟩:=unghost rc hev hb
   rw [← he] at hc
   clear he
   simp only [comp] at hc
   split at hc<;>try (cases hc; done)
   rename_i r1 h1
   cases rc<;>(try exact absurd rfl (hng true _ _))<;>(try exact absurd rfl (hng false _ _))<;>simp [erase] at hc
   rename_i n x
   obtain ⟨rfl⟩:=hc
   simp only [evC] at hev
   obtain ⟨i0,hi0,hR0,hround⟩:=hev
   refine wp_loop_ghost (λk a w=>∃ i,(I n).μ i=k∧(I n).R i0 i∧BInv X N ((I n).S i).st a w) ((I n).μ i0) ⟨i0,rfl,hR0,ge_inv hi0 hb⟩ ?_
   rintro k a' w' ⟨i,rfl,hRi,hbi⟩
   refine ih x h1 _ _ _ (hround i hRi) ?_ a' w' hbi
   intro e σ' a'' w'' hk hb'
   cases e with
   | normal=>
     obtain ⟨j,hj,hRj,hlt⟩:=hk
     exact ⟨_,hlt,j,rfl,hRj,ge_inv hj hb'⟩
   | exit i=>exact hQ _ _ _ _ hk hb'
   | goto l=>exact hQ _ _ _ _ hk hb'
   | ret=>exact hQ _ _ _ _ hk hb'
   | panic ch=>exact hQ _ _ _ _ hk hb'
   | outgrown=>exact hQ _ _ _ _ hk hb'
 | exit id=>
   intro rc hc σ K Q hev hQ a w hb
   obtain ⟨rc,σ,hng,he,hev,hb⟩:=unghost rc hev hb
   rw [← he] at hc
   clear he
   simp only [comp] at hc
   cases rc<;>(try exact absurd rfl (hng true _ _))<;>(try exact absurd rfl (hng false _ _))<;>simp [erase] at hc
   subst hc
   exact wp_exit (hQ _ _ _ _ hev hb)
 | ret=>
   intro rc hc σ K Q hev hQ a w hb
   obtain ⟨rc,σ,hng,he,hev,hb⟩:=unghost rc hev hb
   rw [← he] at hc
   clear he
   simp only [comp] at hc
   cases rc<;>(try exact absurd rfl (hng true _ _))<;>(try exact absurd rfl (hng false _ _))<;>simp [erase] at hc
   exact wp_ret (hQ _ _ _ _ hev hb)
 | _=>
   intro rc hc
   simp [comp] at hc
def resStep (tm:Array Value):ResultVar→Sem Value
 | .tmp t=>pure (tm.getD t undef)
 | .cell a t=>do loadVar t (← asAddr (tm.getD a undef))
theorem run_resT (tm:Array Value)(t:Tmp)(w:World):(resStep tm (.tmp t)).run P w= .ok (tm.getD t undef) w:=rfl
theorem run_resC (tm:Array Value)(p:Tmp)(t:TypeId)(w:World) {b o:Nat}(h:tm.getD p undef= .pointer (some ⟨b,o,none⟩)):(resStep tm (.cell p t)).run P w=(loadVar t ⟨b,o,none⟩).run P w:=by
 simp only [resStep,Sem.run_bind,h,asAddr,Sem.run_pure,Result.andThen_ok]
theorem retV_rep {Z:Nat→Prop} {w:World} {θ:Nat→Value} {σ:St} {tm:Array Value}(hs:∀ k,Rep Z w θ (σ.s k) (tm.getD k undef))(hm:∀ r blk,σ.m r=some blk→BRep Z w θ r blk):
 ∀ {rs:List ResultVar} {rv:List RV},compRes P rs=some rv→∀ {xs:List AV},retL σ rv=some xs→
   ∃ vs,(rs.mapM (resStep tm)).run P w= .ok vs w∧Reps Z w θ xs vs
 | [],rv,hc,xs,h=>by
   simp [compRes] at hc; subst hc
   simp [retL] at h; subst h
   exact ⟨[],by simp,rfl,by simp⟩
 | .tmp t::rs,rv,hc,xs,h=>by
   simp only [compRes] at hc
   obtain ⟨rv',hrv,rfl⟩:=Qk0 hc
   unfold retL at h
   split at h<;>try (cases h; done)
   rename_i v vs hv hvs
   simp only [sI] at h; subst h
   obtain ⟨us,hus,hr⟩:=retV_rep hs hm hrv hvs
   simp only [retV,sI] at hv; subst hv
   refine ⟨tm.getD t undef::us,by simp only [List.mapM_cons,Sem.run_bind,run_resT,Result.andThen_ok,hus,Sem.run_pure],by simp [hr.len],?_⟩
   intro i c v hi hv
   cases i with
   | zero=>simp only [List.getElem?_cons_zero,sI] at hi hv; subst hi; subst hv; exact hs t
   | succ i=>simp only [List.getElem?_cons_succ] at hi hv; exact hr.rep i c v hi hv
 | .cell p t::rs,rv,hc,xs,h=>by
   simp only [compRes] at hc
   split at hc<;>try (cases hc; done)
   rename_i n rv' hn hrv
   split at hc<;>try (cases hc; done)
   rename_i hu
   obtain ⟨u,hu⟩:=Option.isSome_iff_exists.1 hu
   simp only [sI] at hc; subst hc
   unfold retL at h
   split at h<;>try (cases h; done)
   rename_i v vs hv hvs
   simp only [sI] at h; subst h
   obtain ⟨us,hus,hr⟩:=retV_rep hs hm hrv hvs
   simp only [retV] at hv
   split at hv<;>try (cases hv; done)
   rename_i r o hsp
   split at hv<;>try (cases hv; done)
   rename_i cs hmr
   have hp:=hs p
   rw [hsp] at hp
   generalize hpv:tm.getD p undef=pv at hp
   cases hp with
   | ptr _ _ _ b hθ=>
     obtain ⟨b',T,ws,hθ',hheap,hZ,hcs⟩:=hm _ _ hmr
     rw [hθ] at hθ'; simp at hθ'; subst hθ'
     obtain ⟨ls,hl,hls,res,hres,hag⟩:=cells_val hcs hv
     have hload:=Qu0 (w:=w) hn hu (b:=b) (off:=o) hl (λj v hj=>by
      rw [cell_of_row w b (o+j) ws.toArray T (0,0) hheap]; simpa using hls j v hj) hag
     refine ⟨res::us,by simp only [List.mapM_cons,Sem.run_bind,run_resC tm p t w hpv,Sem.run_pure,Result.andThen_ok,hload,hus],by simp [hr.len],?_⟩
     intro i c v hi hv
     cases i with
     | zero=>simp only [List.getElem?_cons_zero,sI] at hi hv; subst hi; subst hv; exact hres
     | succ i=>simp only [List.getElem?_cons_succ] at hi hv; exact hr.rep i c v hi hv
theorem leVs_reps {Z:Nat→Prop} {w:World} {θ:Nat→Value}:∀ {xs ys:List AV} {vs:List Value},leVs xs ys→Reps Z w θ xs vs→Reps Z w θ ys vs
 | [],[],vs,_,h=>h
 | [],_ ::_,vs,h,_=>h.elim
 | _ ::_,[],vs,h,_=>h.elim
 | x ::xs,y::ys,vs,h,hc=>by
   cases vs with
   | nil=>have:=hc.len; simp at this
   | cons u us=>
     have hrest:Reps Z w θ xs us:=⟨by have:=hc.len; simpa using this,λi c v hi hv=>hc.rep (i+1) c v (by simpa using hi) (by simpa using hv)⟩
     have ih:=leVs_reps h.2 hrest
     refine ⟨by simp [ih.len],λi c v hi hv=>?_⟩
     cases i with
     | zero=>simp only [List.getElem?_cons_zero,sI] at hi hv; subst hi; subst hv; exact leV1_rep h.1 (hc.rep 0 x u rfl rfl)
     | succ i=>simp only [List.getElem?_cons_succ] at hi hv; exact ih.rep i c v hi hv
theorem resV_rep {Z:Nat→Prop} {w:World} {θ:Nat→Value} {xs:List AV} {r:AV} {vs:List Value}(h:resV xs r)(hlev:r.clean2=true)(hr:Reps Z w θ xs vs):
 Rep Z w θ r (if h:vs.toArray.size=1 then vs.toArray[0] else .tuple vs.toArray):=by
 unfold resV at h
 split at h
 · rename_i v
   have hl:=hr.len
   match vs,hl with
   | [u],_=>simpa using leV1_rep h (hr.rep 0 v u rfl rfl)
 · rename_i ys hne
   have hr':=leVs_reps h hr
   have hlen:xs.length≠1:=by
    intro h1
    match xs,h1 with
    | [v],_=>exact hne v rfl
   have hvl:¬ vs.toArray.size=1:=by simp [hr.len]; exact hlen
   rw [dif_neg hvl]
   refine .tup θ ys vs hr'.len ?_ hr'.rep
   intro c hc
   simp only [AV.clean2,List.all_eq_true] at hlev
   have:=hlev c hc
   cases c<;>first | rfl | simp [AV.clean1,AV.clean0] at this
 · exact h.elim
theorem Zv0 {fn:Func} {tm:Array Value} {w:World} {vs:List Value}(h:(fn.results.toList.mapM (resStep tm)).run P w= .ok vs w):
 (results fn tm).run P w= .ok (if h:vs.toArray.size=1 then vs.toArray[0] else .tuple vs.toArray) w:=by
 unfold results
 rw [Array.mapM_eq_mapM_toList]
 have e2:∀ g:ResultVar→Sem Value,(∀ x,g x=resStep tm x)→(fn.results.toList.mapM g) =fn.results.toList.mapM (resStep tm):=λg hg=>by rw [funext hg]
 simp only [Sem.run_bind,Sem.run_map]
 rw [e2 _ (by intro x; cases x<;>rfl),h]
 rfl
theorem init_slots {Z:Nat→Prop} {w:World} {θ:Nat→Value} {xs:List AV} {vs:List Value}(h:Reps Z w θ xs vs)(n:Nat):∀ k,Rep Z w θ (initS xs k) ((vs.toArray ++ Array.replicate n undef).getD k undef):=by
 intro k
 unfold initS
 by_cases hk:k < xs.length
 · have hv:k < vs.length:=by rw [h.len]; exact hk
   have e:(vs.toArray ++ Array.replicate n undef).getD k undef=vs[k]:=by
    rw [Array.getD_eq_getD_getElem?,Array.getElem?_append_left (by simpa using hv)]
    simp [hv]
   rw [e]
   have:xs.getD k .junk=xs[k]:=by simp [List.getD,List.getElem?_eq_getElem hk]
   rw [this]
   exact h.rep k _ _ (List.getElem?_eq_getElem hk) (List.getElem?_eq_getElem hv)
 · have:xs.getD k .junk= .junk:=by simp [List.getD,List.getElem?_eq_none (Nat.le_of_not_lt hk)]
   rw [this]
   exact .junk _ _
theorem Reps.of_th0 {Z:Nat→Prop} {w:World} {xs:List AV} {vs:List Value}(h:Reps Z w th0 xs vs)(θ:Nat→Value):Reps Z w θ xs vs:=
 ⟨h.len,λi c v hc hv=>(h.rep i c v hc hv).of_th0 rfl θ⟩
theorem sound_pure (hmix:P.follows .mixedOrders=true)(hΦ:∀ f C,Φ f=some C→Sound P f C)(I:Nat→LI) {f:FuncId} {fn:Func}(hf:P.funcs[f]? =some fn) {c:Code}(hb:fn.body=some c) {rc:RC}(hc:comp P fn.ntmps c=some (erase rc)) {rv:List RV}(hr:compRes P fn.results.toList=some rv)
 {C:List AV→List AV→Option (Prop×AV×List AV)}
 (h:∀ (xs:List AV) (q:Prop) (r:AV) (cs':List AV),C [] xs=some (q,r,cs')→q→r.clean2=true∧xs.length≤fn.ntmps∧evC Φ I rc ⟨initS xs,initM false []⟩ (kRet rv r false [])):Sound P f (.mk false C):=by
 intro Z w xs vs q r cs' hz hgl hreps hC hq
 obtain ⟨hcl,hlen,hev⟩:=h xs q r cs' hC hq
 let X:Cx:=⟨w,nob0,nob0,Z,th0⟩
 refine calls_of_wp hf hb ?_
 refine code_sound hmix hΦ I (X:=X) (N:=fn.ntmps) c rc hc _ _ _ hev ?_ _ w ?_
 · intro e σ' a w' hk hb'
   have hb':=Za0 (lkR (retL σ' rv) r ++ lkT false σ'.m []) hb'
   obtain ⟨Z',θ',hs,hm,hsz,hd⟩:=hb'
   have fin:retOK rv r false [] σ'→a.defers= []∧∃ v,(results fn a.tmps).run P w'= .ok v w'∧∃ v' Z',Ending.returned v= .returned v'∧FrameBut nob0 w w'∧Grow Z w Z' w'∧Rep Z' w' th0 r v':=by
    intro hk
    obtain ⟨hk1,_⟩:=hk
    split at hk1<;>try (exact hk1.elim)
    rename_i ys hys
    obtain ⟨us,hus,hru⟩:=retV_rep hs hm.brep hr hys
    refine ⟨hd,_,Zv0 hus,_,Z',rfl,(hm.fin rfl).1,(hm.fin rfl).2,?_⟩
    exact (resV_rep hk1 hcl hru).th_clean2 hcl th0
   cases e with
   | normal=>exact fin hk
   | ret=>exact fin hk
   | _=>exact hk.elim
 · refine ⟨Z,th0,init_slots hreps _,?_,?_,rfl⟩
   · exact ⟨by simp [initM],by simp [initM],by simp [initM],hz,.refl _ _,λ_ h=>h,λb hb=> .inl hb,λ_ _=>rfl,hgl⟩
   · have:=hreps.len
     simp; omega
theorem sound_state (hmix:P.follows .mixedOrders=true)(hΦ:∀ f C,Φ f=some C→Sound P f C)(I:Nat→LI) {f:FuncId} {fn:Func}(hf:P.funcs[f]? =some fn) {c:Code}(hb:fn.body=some c) {rc:RC}(hc:comp P fn.ntmps c=some (erase rc)) {rv:List RV}(hr:compRes P fn.results.toList=some rv)
 {C:List AV→List AV→Option (Prop×AV×List AV)}
 (h:∀ (cs xs:List AV) (q:Prop) (r:AV) (cs':List AV),C cs xs=some (q,r,cs')→q→r.clean2=true∧cs'.all AV.clean0=true∧xs.length+1≤fn.ntmps∧evC Φ I rc ⟨initS (.ptr 0 0::xs),initM true cs⟩ (kRet rv r true cs')):Sound P f (.mk true C):=by
 intro Z w b T cs us xs vs q r cs' hz hgl hheap hnZ hcells hreps hC hq
 obtain ⟨hcl,hcl',hlen,hev⟩:=h cs xs q r cs' hC hq
 let θ:Nat→Value:=λ_=>pt b
 let X:Cx:=⟨w,(λk=>k=b),nob0,Z,θ⟩
 refine calls_of_wp hf hb ?_
 refine code_sound hmix hΦ I (X:=X) (N:=fn.ntmps) c rc hc _ _ _ hev ?_ _ w ?_
 · intro e σ' a w' hk hb'
   have hb':=Za0 (lkR (retL σ' rv) r ++ lkT true σ'.m cs') hb'
   obtain ⟨Z',θ',hs,hm,hsz,hd⟩:=hb'
   have fin:retOK rv r true cs' σ'→a.defers= []∧∃ v,(results fn a.tmps).run P w'= .ok v w'∧∃ v' Z' T' us',Ending.returned v= .returned v'∧FrameBut (λk=>k=b) w w'∧Grow Z w Z' w'∧w'.heap[b]? =some (.cells (List.toArray us') T' (0,0))∧Cells Z' w' th0 cs' us'∧Rep Z' w' th0 r v':=by
    intro hk
    obtain ⟨hk1,hk2⟩:=hk
    split at hk1<;>try (exact hk1.elim)
    rename_i ys hys
    simp only at hk2
    split at hk2<;>try (exact hk2.elim)
    rename_i ds hds
    obtain ⟨us,hus,hru⟩:=retV_rep hs hm.brep hr hys
    obtain ⟨b',T',ws,hθ,hheap',hnZ',hcs⟩:=hm.brep 0 _ hds
    have h0:=hm.fix 0 (by omega)
    rw [hθ] at h0
    simp only [X,θ] at h0
    simp at h0
    subst h0
    refine ⟨hd,_,Zv0 hus,_,Z',T',ws,rfl,(hm.fin rfl).1,(hm.fin rfl).2,hheap',(Zu0 hk2 hcs).th_clean hcl' th0,?_⟩
    exact (resV_rep hk1 hcl hru).th_clean2 hcl th0
   cases e with
   | normal=>exact fin hk
   | ret=>exact fin hk
   | _=>exact hk.elim
 · have hreps':Reps Z w θ (.ptr 0 0::xs) (pt b::vs):=by
    have:=hreps.of_th0 θ
    refine ⟨by simp [this.len],λi c v hi hv=>?_⟩
    cases i with
    | zero=>simp only [List.getElem?_cons_zero,sI] at hi hv; subst hi; subst hv; exact .ptr _ _ _ _ rfl
    | succ i=>simp only [List.getElem?_cons_succ] at hi hv; exact this.rep i c v hi hv
   have hm0:∀ r blk,initM true cs r=some blk→r=0∧blk= .cells cs:=by
    intro r blk h
    simp only [initM,updM] at h
    split at h
    · rename_i hr; exact ⟨hr,by simpa using h.symm⟩
    · cases h
   refine ⟨Z,θ,init_slots hreps' _,?_,?_,rfl⟩
   · refine ⟨?_,?_,?_,hz,.refl _ _,λ_ h=>h,λb hb=> .inl hb,λ_ _=>rfl,hgl⟩
     · intro r blk h
       obtain ⟨rfl,rfl⟩:=hm0 r blk h
       exact ⟨b,T,us,rfl,hheap,hnZ,hcells.of_th0 θ⟩
     · intro r r' b' h1 h2 _ _
       obtain ⟨x,hx⟩:=Option.isSome_iff_exists.1 h1
       obtain ⟨y,hy⟩:=Option.isSome_iff_exists.1 h2
       rw [(hm0 r x hx).1,(hm0 r' y hy).1]
     · intro r b' h1 h2
       have h3:bk (pt b) =some b':=h2
       simp [bk] at h3
       obtain ⟨x,hx⟩:=Option.isSome_iff_exists.1 h1
       exact .inr ⟨by rw [(hm0 r x hx).1]; omega,by simp [X,h3]⟩
   · have:=hreps.len
     simp; omega
end
end Go.Ev
namespace Go.Ev
open Go Go.RowKit
def nilS:Value:= .slice none 0 0
def valQ (θ:Nat→Value):Option Nat→Value
 | some k=>θ k
 | none=>nilS
def lookQ (θ:Nat→Value):List (Nat×Option Nat)→Nat→Value
 | [],_=>nilS
 | (i,o)::l,j=>if j=i then valQ θ o else lookQ θ l j
theorem nodupN_iff:∀ {l:List Nat},nodupN l=true↔l.Nodup
 | []=>by simp [nodupN]
 | x::l=>by simp [nodupN,nodupN_iff]
theorem lookQ_mem {θ:Nat→Value}:∀ {l:List (Nat×Option Nat)},(l.map (·.1)).Nodup→∀ e∈l,lookQ θ l e.1=valQ θ e.2
 | (i,o)::l,h,e,he=>by
   simp only [List.map_cons,List.nodup_cons] at h
   simp only [lookQ]
   rcases List.mem_cons.1 he with rfl | he
   · simp
   · have hne:e.1≠i:=λh'=>h.1 (List.mem_map.2 ⟨e,he,h'⟩)
     simp only [hne,if_false]
     exact lookQ_mem h.2 e he
theorem pqK_mem:∀ {l:List (Nat×Option Nat)} {j k:Nat},(j,some k)∈l→k∈pqK l
 | (i,some k')::l,j,k,h=>by
   simp only [pqK]
   rcases List.mem_cons.1 h with h | h
   · cases h; simp
   · exact List.mem_cons_of_mem _ (pqK_mem h)
 | (i,none)::l,j,k,h=>by
   simp only [pqK]
   rcases List.mem_cons.1 h with h | h
   · cases h
   · exact pqK_mem h
theorem pqK_inj:∀ {l:List (Nat×Option Nat)},(pqK l).Nodup→∀ {j j' k:Nat},(j,some k)∈l→(j',some k)∈l→j=j'
 | (i,some k')::l,hn,j,j',k,h,h'=>by
   simp only [pqK,List.nodup_cons] at hn
   rcases List.mem_cons.1 h with h | h
   · cases h
     rcases List.mem_cons.1 h' with h' | h'
     · cases h'; rfl
     · exact absurd (pqK_mem h') hn.1
   · rcases List.mem_cons.1 h' with h' | h'
     · cases h'; exact absurd (pqK_mem h) hn.1
     · exact pqK_inj hn.2 h h'
 | (i,none)::l,hn,j,j',k,h,h'=>by
   simp only [pqK] at hn
   rcases List.mem_cons.1 h with h | h
   · cases h
   · rcases List.mem_cons.1 h' with h' | h'
     · cases h'
     · exact pqK_inj hn h h'
section
variable {X:Cx} {Z:Nat→Prop} {w:World} {θ θR:Nat→Value} {m:Nat→Option Blk}
structure Told (Z:Nat→Prop)(w:World)(θR:Nat→Value)(m:Nat→Option Blk)(fr:List (Nat×Blk))(pq:List (Nat×Option Nat)):Prop where
 ids:pq.map (·.1) =fr.map (·.1)
 rep:∀ e∈fr,BRep Z w θR e.1 e.2
 some':∀ j k,(j,some k)∈pq→(m k).isSome=true
theorem Told.nil:Told Z w θR m [] []:=⟨rfl,by simp,by simp⟩
theorem Told.app {f1 f2:List (Nat×Blk)} {p1 p2:List (Nat×Option Nat)}(h1:Told Z w θR m f1 p1)(h2:Told Z w θR m f2 p2):Told Z w θR m (f1 ++ f2) (p1 ++ p2):=
 ⟨by simp [h1.ids,h2.ids],λe he=>(List.mem_append.1 he).elim (h1.rep e) (h2.rep e),λj k h=>(List.mem_append.1 h).elim (h1.some' j k) (h2.some' j k)⟩
theorem leX0_told (hm:Mem X Z w θ m) {x y:AV} {v:Value}(h:leX0 m x y)(hw:wfX0 y=true)(hr:Rep Z w θ x v)(hθ:∀ e∈pq0 x y,θR e.1=valQ θ e.2):Rep Z w θR (told0 y) v∧(told0 y).atom=true∧Told Z w θR m (frs0 y) (pq0 x y):=by
 unfold leX0 at h
 split at h
 · rename_i j t z es k _ _ _
   have hj:=hθ (j,some k) (by simp [pq0])
   unfold leFB at h
   split at h
   · rename_i t' z' es' hk
     obtain ⟨rfl,rfl,rfl⟩:=h
     cases hr with
     | vw _ _ _ _ _ a n c hk'=>
       refine ⟨.vw _ _ _ _ _ _ _ _ (hj.trans hk'),rfl,rfl,?_,?_⟩
       · intro e he
         simp only [frs0,List.mem_singleton] at he
         subst he
         exact BRep.to (hm.brep k _ hk) trivial hj
       · intro j' k' hh
         simp only [pq0,List.mem_singleton,Prod.mk.injEq,sI] at hh
         rw [hh.2,hk]; rfl
   · exact h.elim
 · rename_i j t z es
   have hj:=hθ (j,none) (by simp [pq0])
   subst h
   simp only [wfX0,decide_eq_true_eq] at hw
   cases hr
   refine ⟨.vw _ _ _ _ _ _ _ _ hj,rfl,rfl,?_,?_⟩
   · intro e he
     simp only [frs0,List.mem_singleton] at he
     subst he
     refine ⟨λe=>by rw [e] at hw; simp at hw,by simp,[],?_,?_,Cells.nil _ _ _⟩
     · rw [hj]; exact World.ownsRow_nil w 0 t z.length
     · intro b hb
       rw [hj] at hb; simp [valQ,nilS,bk] at hb
   · intro j' k' hh
     simp [pq0] at hh
 · exact h.elim
 · rename_i j cs k
   have hj:=hθ (j,some k) (by simp [pq0])
   unfold leFC at h
   split at h
   · rename_i ds hk
     cases hr with
     | ptr _ _ _ b hk'=>
       refine ⟨.ptr _ _ _ _ (hj.trans hk'),rfl,rfl,?_,?_⟩
       · intro e he
         simp only [frs0,List.mem_singleton] at he
         subst he
         obtain ⟨b',T,vs,e1,e2,e3,e4⟩:=hm.brep k _ hk
         exact BRep.to (θR:=θ) (j:=k) ⟨b',T,vs,e1,e2,e3,Zu0 h e4⟩ hw hj
       · intro j' k' hh
         simp only [pq0,List.mem_singleton,Prod.mk.injEq,sI] at hh
         rw [hh.2,hk]; rfl
   · exact h.elim
 · exact h.elim
 · have hr':=leA_rep h hr
   cases y<;>simp [wfX0] at hw
   case fr j t z es=>cases hr'
   case fp j cs=>cases hr'
   all_goals exact ⟨hr'.th_clean0 rfl θR,rfl,rfl,by simp [frs0],by simp [pq0]⟩
theorem leXs_told (hm:Mem X Z w θ m):∀ {xs ys:List AV} {vs:List Value},leXs m xs ys→ys.all wfX0=true→Cells Z w θ xs vs→(∀ e∈pqL xs ys,θR e.1=valQ θ e.2)→Cells Z w θR (ys.map told0) vs∧Told Z w θR m (frsL ys) (pqL xs ys)
 | [],[],vs,_,_,h,_=>by
   have:=h.len
   cases vs with
   | nil=>exact ⟨.nil _ _ _,.nil⟩
   | cons _ _=>simp at this
 | [],_ ::_,_,h,_,_,_=>h.elim
 | _ ::_,[],_,h,_,_,_=>h.elim
 | x ::xs,y::ys,vs,h,hw,hc,hθ=>by
   cases vs with
   | nil=>have:=hc.len; simp at this
   | cons u us=>
     simp only [List.all_cons,Bool.and_eq_true] at hw
     simp only [pqL,List.mem_append] at hθ
     have hrest:Cells Z w θ xs us:=by have:=hc.drop 1; simpa using this
     obtain ⟨h1,h2,h3⟩:=leX0_told (θR:=θR) hm h.1 hw.1 (hc.rep 0 x u rfl rfl) (λe he=>hθ e (.inl he))
     obtain ⟨k1,k2⟩:=leXs_told hm h.2 hw.2 hrest (λe he=>hθ e (.inr he))
     exact ⟨Cells.append (Cells.one' h1 h2 (hc.one u (by simp))) k1,h3.app k2⟩
theorem leX1_told (hm:Mem X Z w θ m) {x y:AV} {v:Value}(h:leX1 m x y)(hw:wfX1 y=true)(hr:Rep Z w θ x v)(hθ:∀ e∈pq1 x y,θR e.1=valQ θ e.2):Rep Z w θR (told1 y) v∧(told1 y).lev1=true∧Told Z w θR m (frs1 y) (pq1 x y):=by
 unfold leX1 at h
 split at h
 · rename_i xs ys
   obtain ⟨vs,rfl,hc⟩:=hr.cells
   obtain ⟨h1,h2⟩:=leXs_told hm h hw hc hθ
   exact ⟨h1.agg,rfl,h2⟩
 · rename_i hno
   have hya:∀ ys,y≠ .agg ys:=by
    rintro ys rfl
    unfold leX0 at h
    simp only at h
    unfold leA at h
    split at h
    · rename_i he; cases he
    · exact hno _ ys h rfl
   have hpq:pq1 x y=pq0 x y:=by
    unfold pq1
    split
    · exact absurd rfl (hya _)
    · rfl
   have e1:wfX0 y=true:=by cases y<;>first | exact hw | exact absurd rfl (hya _)
   rw [hpq] at hθ ⊢
   obtain ⟨h1,h2,h3⟩:=leX0_told (θR:=θR) hm h e1 hr hθ
   have e2:told1 y=told0 y:=by cases y<;>first | rfl | exact absurd rfl (hya _)
   have e3:frs1 y=frs0 y:=by cases y<;>first | rfl | exact absurd rfl (hya _)
   rw [e2,e3]
   refine ⟨h1,?_,h3⟩
   generalize told0 y=q at h2
   cases q<;>first | rfl | simp [AV.atom] at h2
theorem leXV_told (hm:Mem X Z w θ m):∀ {xs ys:List AV} {vs:List Value},leXV m xs ys→ys.all wfX1=true→Reps Z w θ xs vs→(∀ e∈pqV xs ys,θR e.1=valQ θ e.2)→Reps Z w θR (ys.map told1) vs∧(∀ y∈ys,(told1 y).lev1=true)∧Told Z w θR m (frsV ys) (pqV xs ys)
 | [],[],vs,_,_,h,_=>⟨⟨h.len,by simp⟩,by simp,.nil⟩
 | [],_ ::_,_,h,_,_,_=>h.elim
 | _ ::_,[],_,h,_,_,_=>h.elim
 | x ::xs,y::ys,vs,h,hw,hc,hθ=>by
   cases vs with
   | nil=>have:=hc.len; simp at this
   | cons u us=>
     simp only [List.all_cons,Bool.and_eq_true] at hw
     simp only [pqV,List.mem_append] at hθ
     have hrest:Reps Z w θ xs us:=⟨by have:=hc.len; simpa using this,λi c v hi hv=>hc.rep (i+1) c v (by simpa using hi) (by simpa using hv)⟩
     obtain ⟨h1,h2,h3⟩:=leX1_told (θR:=θR) hm h.1 hw.1 (hc.rep 0 x u rfl rfl) (λe he=>hθ e (.inl he))
     obtain ⟨k1,k2,k3⟩:=leXV_told hm h.2 hw.2 hrest (λe he=>hθ e (.inr he))
     refine ⟨⟨by simp [k1.len],λi c v hi hv=>?_⟩,?_,h3.app k3⟩
     · cases i with
       | zero=>simp only [List.map_cons,List.getElem?_cons_zero,sI] at hi hv; subst hi; subst hv; exact h1
       | succ i=>simp only [List.map_cons,List.getElem?_cons_succ] at hi hv; exact k1.rep i c v hi hv
     · intro y' hy'
       rcases List.mem_cons.1 hy' with rfl | hy'
       · exact h2
       · exact k2 y' hy'
theorem ids0 (x y:AV):(pq0 x y).map (·.1) =(frs0 y).map (·.1):=by
 cases y<;>first | rfl | (cases x<;>rfl)
theorem idsL:∀ {xs ys:List AV},leXs m xs ys→(pqL xs ys).map (·.1) =(frsL ys).map (·.1)
 | [],[],_=>rfl
 | [],_ ::_,h=>h.elim
 | _ ::_,[],h=>h.elim
 | x::xs,y::ys,h=>by simp only [pqL,frsL,List.map_append,ids0,idsL h.2]
theorem ids1 {x y:AV}(h:leX1 m x y):(pq1 x y).map (·.1) =(frs1 y).map (·.1):=by
 unfold leX1 at h
 split at h
 · exact idsL h
 · rename_i hno
   have hya:∀ ys,y≠ .agg ys:=by
    rintro ys rfl
    unfold leX0 at h
    simp only at h
    unfold leA at h
    split at h
    · rename_i he; cases he
    · exact hno _ ys h rfl
   have e3:frs1 y=frs0 y:=by cases y<;>first | rfl | exact absurd rfl (hya _)
   have hpq:pq1 x y=pq0 x y:=by
    unfold pq1
    split
    · exact absurd rfl (hya _)
    · rfl
   rw [hpq,e3,ids0]
theorem idsV:∀ {xs ys:List AV},leXV m xs ys→(pqV xs ys).map (·.1) =(frsV ys).map (·.1)
 | [],[],_=>rfl
 | [],_ ::_,h=>h.elim
 | _ ::_,[],h=>h.elim
 | x::xs,y::ys,h=>by simp only [pqV,frsV,List.map_append,ids1 h.1,idsV h.2]
theorem resX_told (hm:Mem X Z w θ m)(hg:X.gw=nob0) {xs:List AV} {r:AV} {vs:List Value}(h:resXO m r (some xs))(hr:Reps Z w θ xs vs):
 ∃ θR,Rep Z w θR (told2 r) (if h:vs.toArray.size=1 then vs.toArray[0] else .tuple vs.toArray)∧FrOK Z X.w0 w θR (frs2 r):=by
 obtain ⟨hres,hc⟩:=h
 simp only [Bool.and_eq_true,idsOK] at hc
 obtain ⟨hn,h64,⟨hids,_⟩,hw⟩:=hc
 rw [nodupN_iff] at hn hids
 have fin:Told Z w (lookQ θ (pqR xs r)) m (frs2 r) (pqR xs r)→FrOK Z X.w0 w (lookQ θ (pqR xs r)) (frs2 r):=by
  intro ht
  have hnd:((pqR xs r).map (·.1)).Nodup:=by rw [ht.ids]; exact hids
  have get:∀ j blk,(j,blk)∈frs2 r→∃ o,(j,o)∈pqR xs r:=by
   intro j blk hj
   have:j∈(pqR xs r).map (·.1):=by rw [ht.ids]; exact List.mem_map.2 ⟨_,hj,rfl⟩
   obtain ⟨⟨j',o⟩,he,rfl⟩:=List.mem_map.1 this
   exact ⟨o,he⟩
  have val:∀ j o b,(j,o)∈pqR xs r→bk (lookQ θ (pqR xs r) j) =some b→∃ k,o=some k∧bk (θ k) =some b∧(m k).isSome=true∧64≤k:=by
   intro j o b he hb
   rw [lookQ_mem hnd (j,o) he] at hb
   cases o with
   | none=>simp [valQ,nilS,bk] at hb
   | some k=>
     refine ⟨k,rfl,hb,ht.some' j k he,?_⟩
     have:=List.all_eq_true.1 h64 k (pqK_mem he)
     simpa using this
  refine ⟨λj blk hj=>ht.rep _ hj,?_,?_⟩
  · intro j blk hj b hb
    obtain ⟨o,he⟩:=get j blk hj
    obtain ⟨k,rfl,h1,h2,h3⟩:=val j o b he hb
    rcases hm.own k b h2 h1 with (h | h) | h
    · exact h
    · rw [hg] at h; exact h.elim
    · omega
  · intro j blk j' blk' hj hj' b hb hb'
    obtain ⟨o,he⟩:=get j blk hj
    obtain ⟨o',he'⟩:=get j' blk' hj'
    obtain ⟨k,rfl,h1,h2,_⟩:=val j o b he hb
    obtain ⟨k',rfl,h1',h2',_⟩:=val j' o' b he' hb'
    have:=hm.disj k k' b h2 h2' h1 h1'
    subst this
    exact pqK_inj hn he he'
 have hθ:((pqR xs r).map (·.1)).Nodup→∀ e∈pqR xs r,lookQ θ (pqR xs r) e.1=valQ θ e.2:=λh e he=>lookQ_mem h e he
 unfold resX at hres
 split at hres
 · rename_i x
   have hl:=hr.len
   match vs,hl,hr with
   | [u],_,hr=>
     have hwr:wfX1 r=true:=by simpa only [wfRes] using hw
     have hpq:pqR [x] r=pq1 x r:=by cases r<;>rfl
     have hfr:frs2 r=frs1 r:=by cases r<;>first | rfl | cases hwr
     have htd:told2 r=told1 r:=by cases r<;>first | rfl | cases hwr
     rw [hpq] at hθ fin
     rw [hfr] at hids fin
     have h1:=leX1_told (θR:=lookQ θ (pq1 x r)) hm hres hwr (hr.rep 0 x u rfl rfl) (hθ (by rw [ids1 hres]; exact hids))
     rw [htd,hfr]
     exact ⟨_,by simpa using h1.1,fin h1.2.2⟩
 · rename_i ys hne _
   have hlen:xs.length≠1:=by
    intro h1
    obtain ⟨v,hv⟩:=List.length_eq_one_iff.1 h1
    exact hne v hv
   have hvl:¬ vs.toArray.size=1:=by simp [hr.len]; exact hlen
   rw [dif_neg hvl]
   have hwr:ys.all wfX1=true:=by
    unfold wfRes at hw
    split at hw
    · exact absurd rfl (hne _)
    · exact hw
   have hpq:pqR xs (.tup ys) =pqV xs ys:=by
    unfold pqR
    split
    · exact absurd rfl (hne _)
    · rename_i e; cases e; rfl
    · rename_i h1 h2; first | exact absurd rfl (h2 ys) | exact absurd rfl (h1 ys)
   rw [hpq] at hθ fin
   simp only [frs2] at hids fin ⊢
   obtain ⟨h1,h2,h3⟩:=leXV_told (θR:=lookQ θ (pqV xs ys)) hm hres hwr hr (hθ (by rw [idsV hres]; exact hids))
   refine ⟨lookQ θ (pqV xs ys),?_,fin h3⟩
   simp only [told2]
   refine .tup _ _ vs h1.len ?_ h1.rep
   intro c hc
   obtain ⟨y,hy,rfl⟩:=List.mem_map.1 hc
   exact h2 y hy
 · exact hres.elim
end
section
variable {P:Program} {Φ:Nat→Option Ctr}
theorem soundX_pure (hmix:P.follows .mixedOrders=true)(hΦ:∀ f C,Φ f=some C→Sound P f C)(I:Nat→LI) {f:FuncId} {fn:Func}(hf:P.funcs[f]? =some fn) {c:Code}(hb:fn.body=some c) {rc:RC}(hc:comp P fn.ntmps c=some (erase rc)) {rv:List RV}(hr:compRes P fn.results.toList=some rv)
 {ι:Type} {C:List AV→List AV→Option (Prop×(ι→Prop×AV×List AV))}
 (h:∀ (xs:List AV) (q:Prop) (g:ι→Prop×AV×List AV),C [] xs=some (q,g)→q→xs.length≤fn.ntmps∧evC Φ I rc ⟨initS xs,initM false []⟩ (kRetX rv false g)):Sound P f (.ext false ι C):=by
 intro Z w xs vs q g hz hgl hreps hC hq
 obtain ⟨hlen,hev⟩:=h xs q g hC hq
 let X:Cx:=⟨w,nob0,nob0,Z,th0⟩
 refine calls_of_wp hf hb ?_
 refine code_sound hmix hΦ I (X:=X) (N:=fn.ntmps) c rc hc _ _ _ hev ?_ _ w ?_
 · intro e σ' a w' hk hb'
   have fin:(∃ i,(g i).1∧retX rv (g i).2.1 false (g i).2.2 σ')→a.defers= []∧∃ v,(results fn a.tmps).run P w'= .ok v w'∧∃ i v' Z' θ',(g i).1∧Ending.returned v= .returned v'∧FrameBut nob0 w w'∧Grow Z w Z' w'∧Rep Z' w' θ' (told2 (g i).2.1) v'∧FrOK Z' w w' θ' (frs2 (g i).2.1):=by
    rintro ⟨i,hpost,hk⟩
    have hb':=Za0 (lkR (retL σ' rv) (g i).2.1 ++ lkT false σ'.m (g i).2.2) hb'
    obtain ⟨Z',θ',hs,hm,hsz,hd⟩:=hb'
    obtain ⟨hk1,_⟩:=hk
    cases hys:retL (applyL (lkR (retL σ' rv) (g i).2.1 ++ lkT false σ'.m (g i).2.2) σ') rv with
    | none=>rw [hys] at hk1; exact hk1.elim
    | some ys=>
      rw [hys] at hk1
      obtain ⟨us,hus,hru⟩:=retV_rep hs hm.brep hr hys
      obtain ⟨θR,h1,h2⟩:=resX_told hm rfl hk1 hru
      exact ⟨hd,_,Zv0 hus,i,_,Z',θR,hpost,rfl,(hm.fin rfl).1,(hm.fin rfl).2,h1,h2⟩
   cases e with
   | normal=>exact fin hk
   | ret=>exact fin hk
   | _=>exact hk.elim
 · refine ⟨Z,th0,init_slots hreps _,?_,?_,rfl⟩
   · exact ⟨by simp [initM],by simp [initM],by simp [initM],hz,.refl _ _,λ_ h=>h,λb hb=> .inl hb,λ_ _=>rfl,hgl⟩
   · have:=hreps.len
     simp; omega
theorem soundX_state (hmix:P.follows .mixedOrders=true)(hΦ:∀ f C,Φ f=some C→Sound P f C)(I:Nat→LI) {f:FuncId} {fn:Func}(hf:P.funcs[f]? =some fn) {c:Code}(hb:fn.body=some c) {rc:RC}(hc:comp P fn.ntmps c=some (erase rc)) {rv:List RV}(hr:compRes P fn.results.toList=some rv)
 {ι:Type} {C:List AV→List AV→Option (Prop×(ι→Prop×AV×List AV))}
 (h:∀ (cs xs:List AV) (q:Prop) (g:ι→Prop×AV×List AV),C cs xs=some (q,g)→q→(∀ i,(g i).1→(g i).2.2.all AV.clean0=true)∧xs.length+1≤fn.ntmps∧evC Φ I rc ⟨initS (.ptr 0 0::xs),initM true cs⟩ (kRetX rv true g)):Sound P f (.ext true ι C):=by
 intro Z w b T cs us xs vs q g hz hgl hheap hnZ hcells hreps hC hq
 obtain ⟨hcl',hlen,hev⟩:=h cs xs q g hC hq
 let θ:Nat→Value:=λ_=>pt b
 let X:Cx:=⟨w,(λk=>k=b),nob0,Z,θ⟩
 refine calls_of_wp hf hb ?_
 refine code_sound hmix hΦ I (X:=X) (N:=fn.ntmps) c rc hc _ _ _ hev ?_ _ w ?_
 · intro e σ' a w' hk hb'
   have fin:(∃ i,(g i).1∧retX rv (g i).2.1 true (g i).2.2 σ')→a.defers= []∧∃ v,(results fn a.tmps).run P w'= .ok v w'∧∃ i v' Z' θ' T' us',(g i).1∧Ending.returned v= .returned v'∧FrameBut (λk=>k=b) w w'∧Grow Z w Z' w'∧w'.heap[b]? =some (.cells (List.toArray us') T' (0,0))∧Cells Z' w' th0 (g i).2.2 us'∧Rep Z' w' θ' (told2 (g i).2.1) v'∧FrOK Z' w w' θ' (frs2 (g i).2.1):=by
    rintro ⟨i,hpost,hk⟩
    have hb':=Za0 (lkR (retL σ' rv) (g i).2.1 ++ lkT true σ'.m (g i).2.2) hb'
    obtain ⟨Z',θ',hs,hm,hsz,hd⟩:=hb'
    obtain ⟨hk1,hk2⟩:=hk
    unfold resXT at hk2
    split at hk2<;>try (cases hk2; done)
    rename_i ds hds
    have hk2:leAs ds (g i).2.2:=hk2.resolve_left (by simp)
    cases hys:retL (applyL (lkR (retL σ' rv) (g i).2.1 ++ lkT true σ'.m (g i).2.2) σ') rv with
    | none=>rw [hys] at hk1; exact hk1.elim
    | some ys=>
      rw [hys] at hk1
      obtain ⟨us,hus,hru⟩:=retV_rep hs hm.brep hr hys
      obtain ⟨θR,h1,h2⟩:=resX_told hm rfl hk1 hru
      obtain ⟨b',T',ws,hθ,hheap',hnZ',hcs⟩:=hm.brep 0 _ hds
      have h0:=hm.fix 0 (by omega)
      rw [hθ] at h0
      simp only [X,θ] at h0
      simp at h0
      subst h0
      exact ⟨hd,_,Zv0 hus,i,_,Z',θR,T',ws,hpost,rfl,(hm.fin rfl).1,(hm.fin rfl).2,hheap',(Zu0 hk2 hcs).th_clean (hcl' i hpost) th0,h1,h2⟩
   cases e with
   | normal=>exact fin hk
   | ret=>exact fin hk
   | _=>exact hk.elim
 · have hreps':Reps Z w θ (.ptr 0 0::xs) (pt b::vs):=by
    have:=hreps.of_th0 θ
    refine ⟨by simp [this.len],λi c v hi hv=>?_⟩
    cases i with
    | zero=>simp only [List.getElem?_cons_zero,sI] at hi hv; subst hi; subst hv; exact .ptr _ _ _ _ rfl
    | succ i=>simp only [List.getElem?_cons_succ] at hi hv; exact this.rep i c v hi hv
   have hm0:∀ r blk,initM true cs r=some blk→r=0∧blk= .cells cs:=by
    intro r blk h
    simp only [initM,updM] at h
    split at h
    · rename_i hr; exact ⟨hr,by simpa using h.symm⟩
    · cases h
   refine ⟨Z,θ,init_slots hreps' _,?_,?_,rfl⟩
   · refine ⟨?_,?_,?_,hz,.refl _ _,λ_ h=>h,λb hb=> .inl hb,λ_ _=>rfl,hgl⟩
     · intro r blk h
       obtain ⟨rfl,rfl⟩:=hm0 r blk h
       exact ⟨b,T,us,rfl,hheap,hnZ,hcells.of_th0 θ⟩
     · intro r r' b' h1 h2 _ _
       obtain ⟨x,hx⟩:=Option.isSome_iff_exists.1 h1
       obtain ⟨y,hy⟩:=Option.isSome_iff_exists.1 h2
       rw [(hm0 r x hx).1,(hm0 r' y hy).1]
     · intro r b' h1 h2
       have h3:bk (pt b) =some b':=h2
       simp [bk] at h3
       obtain ⟨x,hx⟩:=Option.isSome_iff_exists.1 h1
       exact .inr ⟨by rw [(hm0 r x hx).1]; omega,by simp [X,h3]⟩
   · have:=hreps.len
     simp; omega
def lev2:AV→Bool
 | .tup vs=>vs.all AV.lev1
 | x=>x.lev1
theorem resV_rep2 {Z:Nat→Prop} {w:World} {θ:Nat→Value} {xs:List AV} {r:AV} {vs:List Value}(h:resV xs r)(hlev:lev2 r=true)(hr:Reps Z w θ xs vs):Rep Z w θ r (if h:vs.toArray.size=1 then vs.toArray[0] else .tuple vs.toArray):=by
 unfold resV at h
 split at h
 · rename_i x
   have hl:=hr.len
   match vs,hl,hr with
   | [u],_,hr=>simpa using leV1_rep h (hr.rep 0 x u rfl rfl)
 · rename_i ys hne
   have hlen:xs.length≠1:=by
    intro h1
    obtain ⟨v,hv⟩:=List.length_eq_one_iff.1 h1
    exact hne v hv
   have hvl:¬ vs.toArray.size=1:=by simp [hr.len]; exact hlen
   rw [dif_neg hvl]
   have hys:=leVs_reps h hr
   exact .tup _ _ vs hys.len (λc hc=>List.all_eq_true.1 hlev c hc) hys.rep
 · exact h.elim
theorem lookM_mem:∀ {l:List (Nat×Blk)} {r:Nat} {b:Blk},lookM l r=some b→(r,b)∈l
 | [],_,_,h=>by cases h
 | (r0,b0)::l,r,b,h=>by
   simp only [lookM,updM] at h
   split at h
   · rename_i e; subst e; cases h; simp
   · exact List.mem_cons_of_mem _ (lookM_mem h)
theorem leM_mem {m:Nat→Option Blk}:∀ {l:List (Nat×Blk)},leM m l→∀ x∈l,∃ b0,m x.1=some b0∧leB (some b0) x.2
 | [],_,x,hx=>by cases hx
 | (r, b)::l,h,x,hx=>by
   rcases List.mem_cons.1 hx with rfl | hx
   · have h1:=h.1
     cases hm:m r with
     | none=>
       exfalso
       rw [hm] at h1
       cases b<;>exact h1
     | some b0=>rw [hm] at h1; exact ⟨b0,rfl,h1⟩
   · exact leM_mem h.2 x hx
theorem soundG (hmix:P.follows .mixedOrders=true)(hΦ:∀ f C,Φ f=some C→Sound P f C) {f:FuncId} {fn:Func}(hf:P.funcs[f]? =some fn) {c:Code}(hb:fn.body=some c) {rc:RC}(hc:comp P fn.ntmps c=some (erase rc)) {rv:List RV}(hr:compRes P fn.results.toList=some rv)
 {ι:Type} {ho:List Nat} {fz:Bool} {C:List (Nat×Blk)→List AV→Option (Prop×(ι→Prop×AV×List (Nat×Blk)))}
 (h:∀ (bs:List (Nat×Blk)) (xs:List AV) (q:Prop) (g:ι→Prop×AV×List (Nat×Blk)),C bs xs=some (q,g)→q→∃ I:Nat→LI,(∀ i,(g i).1→lev2 (g i).2.1=true)∧xs.length≤fn.ntmps∧evC Φ I rc ⟨initS xs,lookM bs⟩ (kRetG rv g)):Sound P f (.gr ι ho fz C):=by
 intro Z w θ bs xs vs q g hz hgl hin hreps hC hq
 obtain ⟨I,hlev,hlen,hev⟩:=h bs xs q g hC hq
 let X:Cx:=⟨w,(λb=>∃ x∈bs,x.1 < 64∧bk (θ x.1) =some b),(λb=>∃ x∈bs,64≤x.1∧bk (θ x.1) =some b),Z,θ⟩
 refine calls_of_wp hf hb ?_
 refine code_sound hmix hΦ I (X:=X) (N:=fn.ntmps) c rc hc _ _ _ hev ?_ _ w ?_
 · intro e σ' a w' hk hb'
   have fin:(∃ i,(g i).1∧retG rv (g i).2.1 (g i).2.2 σ')→a.defers= []∧∃ v,(results fn a.tmps).run P w'= .ok v w'∧∃ i v' Z' θ',(g i).1∧Ending.returned v= .returned v'∧FrameBut (λb=>∃ x∈bs,bk (θ x.1) =some b) w w'∧(∀ b,Z b→Z' b)∧(∀ b,Z' b→Z b∨w.heap.size≤b∨∃ x∈bs,64≤x.1∧bk (θ x.1) =some b)∧(∀ b,Z' b→b < w'.heap.size)∧Rep Z' w' θ' (g i).2.1 v'∧OutOK Z' w w' θ θ' bs (g i).2.2:=by
    rintro ⟨i,hpost,hk⟩
    have hb':=Za0 (lkR (retL σ' rv) (g i).2.1 ++ lkG σ'.m (g i).2.2) hb'
    obtain ⟨Z',θ',hs,hm,hsz,hd⟩:=hb'
    obtain ⟨hk1,hk2⟩:=hk
    cases hys:retL (applyL (lkR (retL σ' rv) (g i).2.1 ++ lkG σ'.m (g i).2.2) σ') rv with
    | none=>rw [hys] at hk1; exact hk1.elim
    | some ys=>
      rw [hys] at hk1
      obtain ⟨us,hus,hru⟩:=retV_rep hs hm.brep hr hys
      refine ⟨hd,_,Zv0 hus,i,_,Z',θ',hpost,rfl,?_,hm.zin,?_,hm.zlt,resV_rep2 hk1 (hlev i hpost) hru,?_⟩
      · refine hm.frame.mono ?_
        rintro b (⟨x,hx,_,hxb⟩ | ⟨x,hx,_,hxb⟩)
        · exact ⟨x,hx,hxb⟩
        · exact ⟨x,hx,hxb⟩
      · intro b hzb
        rcases hm.znew b hzb with h | h | h
        · exact .inl h
        · exact .inr (.inl h)
        · exact .inr (.inr h)
      · refine ⟨?_,?_,?_,λj hj=>hm.fix j hj⟩
        · intro x hx
          obtain ⟨b0,h1,h2⟩:=leM_mem hk2 x hx
          exact leB_rep h2 (hm.brep x.1 b0 h1)
        · intro x hx y hy b hbx hby
          obtain ⟨b0,h1,_⟩:=leM_mem hk2 x hx
          obtain ⟨b1,h1',_⟩:=leM_mem hk2 y hy
          exact hm.disj x.1 y.1 b (by rw [h1]; rfl) (by rw [h1']; rfl) hbx hby
        · intro x hx b hbx
          obtain ⟨b0,h1,_⟩:=leM_mem hk2 x hx
          rcases hm.own x.1 b (by rw [h1]; rfl) hbx with (h | h) | h
          · exact .inr (.inl h)
          · exact .inr (.inr h)
          · exact .inl h.1
   cases e with
   | normal=>exact fin hk
   | ret=>exact fin hk
   | _=>exact hk.elim
 · refine ⟨Z,θ,init_slots hreps _,?_,?_,rfl⟩
   · refine ⟨?_,?_,?_,hz,.refl _ _,λ_ h=>h,λb hb=> .inl hb,λ_ _=>rfl,hgl⟩
     · intro r blk hr
       exact hin.rep _ (lookM_mem hr)
     · intro r r' b h1 h2 h3 h4
       obtain ⟨x,hx⟩:=Option.isSome_iff_exists.1 h1
       obtain ⟨y,hy⟩:=Option.isSome_iff_exists.1 h2
       exact hin.dis _ (lookM_mem hx) _ (lookM_mem hy) b h3 h4
     · intro r b h1 h2
       obtain ⟨x,hx⟩:=Option.isSome_iff_exists.1 h1
       rcases Nat.lt_or_ge r 64 with h | h
       · exact .inr ⟨h,_,lookM_mem hx,h,h2⟩
       · exact .inl (.inr ⟨_,lookM_mem hx,h,h2⟩)
   · have:=hreps.len
     simp; omega
end
end Go.Ev
