/- A part of the proof; no condition. -/
import Derived.Test.YthgmdkokaflgjaaGreatDoorQB
import Derived.Deep.LoopGhost
import Derived.WideMake
set_option linter.unusedSimpArgs false
set_option linter.unusedVariables false
set_option linter.unusedSectionVars false
namespace Go.Ev
open Go Go.RowKit
structure Inv (X:Cx)(N:Nat)(G:Prop)(Z:Nat→Prop)(w:World)(θ:Nat→Value)(W:List Nat)(σ:St)(tm:Array Value):Prop where
 slot:∀ k,SRep Z w θ tm (σ.s k) (tm.getD k undef)
 mem:Mem X Z w θ σ.m
 path:∀ k q y,σ.s k= .gd q y→∀ e∈q,e.1∈W∧∃ c,boolOf (σ.s e.1) =some c
 nog:G∨∀ k q y,σ.s k≠ .gd q y
 size:tm.size=N
section
variable {P:Program} {X:Cx} {Z Z':Nat→Prop} {w w':World} {θ θ':Nat→Value} {σ:St} {Φ:Nat→Option Ctr} {N:Nat}
theorem Qt0 {x:AV} {v:Value}(h:Rep Z w θ x v)(q:List (Nat×Bool))(y:AV):x≠ .gd q y:=by
 rintro rfl; cases h
theorem SRep.of_rep {tm:Array Value} {x:AV} {v:Value}(h:Rep Z w θ x v):SRep Z w θ tm x v:=by
 cases x<;>first | exact h | cases h
theorem SRep.rep {tm:Array Value} {x:AV} {v:Value}(h:SRep Z w θ tm x v)(hx:∀ q y,x≠ .gd q y):Rep Z w θ x v:=by
 cases x<;>first | exact h | exact absurd rfl (hx _ _)
theorem getD_set_same {tm:Array Value} {d:Nat} {v:Value}(h:d < tm.size):(tm.setIfInBounds d v).getD d undef=v:=by
 simp [Array.getD,h]
theorem getD_set_ne {tm:Array Value} {d k:Nat} {v:Value}(h:k≠d):(tm.setIfInBounds d v).getD k undef=tm.getD k undef:=by
 simp only [Array.getD_eq_getD_getElem?,Array.getElem?_setIfInBounds]
 rw [if_neg (by omega)]
theorem get_set_ne {tm:Array Value} {d k:Nat} {v:Value}(h:k≠d):(tm.setIfInBounds d v)[k]? =tm[k]?:=by
 rw [Array.getElem?_setIfInBounds,if_neg (by omega)]
theorem pathT_set {tm:Array Value} {d:Nat} {v:Value} {q:List (Nat×Bool)}(h:∀ e∈q,e.1≠d):pathT (tm.setIfInBounds d v) q↔pathT tm q:=by
 constructor
 · intro hp e he; have:=hp e he; rwa [get_set_ne (h e he)] at this
 · intro hp e he; rw [get_set_ne (h e he)]; exact hp e he
theorem SRep.goes {tm tm':Array Value}(g:Goes Z w Z' w')(ht:∀ k,θ' k=θ k) {x:AV} {v:Value}(h:SRep Z w θ tm x v)(hq:∀ q y,x= .gd q y→(pathT tm' q↔pathT tm q)):SRep Z' w' θ' tm' x v:=by
 have hθ:θ'=θ:=funext ht
 subst hθ
 cases x with
 | gd q y=>exact ⟨λhp=>(h.1 ((hq q y rfl).1 hp)).step g,λhp=>h.2 λhp'=>hp ((hq q y rfl).2 hp')⟩
 | _=>exact Rep.step g h
theorem SRep.kill {tm tm':Array Value}(g:Goes Z w Z' w')(r:Nat)(ht:∀ k,k≠r→θ' k=θ k) {x:AV} {v:Value}(h:SRep Z w θ tm x v)(hq:∀ q y,x= .gd q y→(pathT tm' q↔pathT tm q)):SRep Z' w' θ' tm' (kill3 r x) v:=by
 cases x with
 | gd q y=>exact ⟨λhp=>((h.1 ((hq q y rfl).1 hp)).kill2 r ht).step g,λhp=>h.2 λhp'=>hp ((hq q y rfl).2 hp')⟩
 | _=>exact .of_rep ((Rep.kill2 h r ht).step g)
theorem kill0_gd {r:Nat} {x:AV} {q:List (Nat×Bool)} {y:AV}(h:kill0 r x= .gd q y):x= .gd q y:=by
 cases x<;>simp only [kill0] at h<;>first | exact h | (cases h; done) | (split at h<;>cases h)
theorem kill3_gd {r:Nat} {x:AV} {q:List (Nat×Bool)} {y:AV}(h:kill3 r x= .gd q y):∃ y',x= .gd q y':=by
 cases x with
 | gd q' y'=>simp only [kill3] at h; cases h; exact ⟨y',rfl⟩
 | tup vs=>simp only [kill3,kill2] at h; cases h
 | agg cs=>simp only [kill3,kill2,kill1] at h; cases h
 | _=>exact ⟨y,kill0_gd (r:=r) h⟩
theorem boolOf_kill3 {r:Nat} {x:AV} {c:Bool}(h:boolOf x=some c):boolOf (kill3 r x) =some c:=by
 unfold boolOf at h
 split at h
 · exact h
 · exact h
 · cases h
theorem Inv.put {G:Prop} {W:List Nat} {a:Act}(inv:Inv X N G Z w θ W σ a.tmps) {d:Nat}(hdW:d∉W)(hdN:d < N) {r:Res} {v:Value}(ho:Out X Z w θ σ.m d r v Z' w' θ'):
 Inv X N G Z' w' θ' (d::W) (σ.put (some d) r) (a.tmps.setIfInBounds d v):=by
 have hlt:d < a.tmps.size:=by rw [inv.size]; exact hdN
 have hgd:∀ k q y,σ.s k= .gd q y→∀ e∈q,e.1≠d:=λk q y h e he hed=>hdW (hed▸(inv.path k q y h e he).1)
 have hval:=ho.val
 have hnval:∀ q y,r.val≠ .gd q y:=λq y=>Qt0 ho.val q y
 obtain ⟨pre,post,val,ups,new,tch⟩:=r
 cases new with
 | none=>
   refine ⟨?_,ho.mem,?_,?_,by simpa using inv.size⟩
   · intro k
     simp only [St.put]
     by_cases hk:k=d
     · subst hk
       rw [getD_set_same hlt]
       simp only [upd,if_true]
       exact .of_rep hval
     · rw [getD_set_ne hk]
       simp only [upd,hk,if_false]
       exact (inv.slot k).goes ho.goes (λk=>ho.th k (λ_ _ e=>by cases e)) (λq y e=>pathT_set (hgd k q y e))
   · intro k q y hk e he
     simp only [St.put] at hk ⊢
     by_cases hkd:k=d
     · subst hkd
       simp only [upd,if_true] at hk
       exact absurd hk (hnval q y)
     · simp only [upd,hkd,if_false] at hk
       obtain ⟨h1,c,h2⟩:=inv.path k q y hk e he
       refine ⟨List.mem_cons_of_mem _ h1,c,?_⟩
       have:e.1≠d:=hgd k q y hk e he
       simp only [upd,this,if_false]
       exact h2
   · rcases inv.nog with h | h
     · exact .inl h
     · right
       intro k q y hk
       simp only [St.put] at hk
       by_cases hkd:k=d
       · subst hkd
         simp only [upd,if_true] at hk
         exact hnval q y hk
       · simp only [upd,hkd,if_false] at hk
         exact h k q y hk
 | some b=>
   obtain ⟨i,b⟩:=b
   have hth:∀ k,k≠i→θ' k=θ k:=λk hk=>ho.th k (λi' b' e=>by cases e; exact hk)
   refine ⟨?_,ho.mem,?_,?_,by simpa using inv.size⟩
   · intro k
     simp only [St.put]
     by_cases hk:k=d
     · subst hk
       rw [getD_set_same hlt]
       simp only [upd,if_true]
       exact .of_rep hval
     · rw [getD_set_ne hk]
       simp only [upd,hk,if_false,killS]
       exact (inv.slot k).kill ho.goes i hth (λq y e=>pathT_set (hgd k q y e))
   · intro k q y hk e he
     simp only [St.put] at hk ⊢
     by_cases hkd:k=d
     · subst hkd
       simp only [upd,if_true] at hk
       exact absurd hk (hnval q y)
     · simp only [upd,hkd,if_false,killS] at hk
       obtain ⟨y',hk'⟩:=kill3_gd hk
       obtain ⟨h1,c,h2⟩:=inv.path k q y' hk' e he
       refine ⟨List.mem_cons_of_mem _ h1,c,?_⟩
       have:e.1≠d:=hgd k q y' hk' e he
       simp only [upd,this,if_false,killS]
       exact boolOf_kill3 h2
   · rcases inv.nog with h | h
     · exact .inl h
     · right
       intro k q y hk
       simp only [St.put] at hk
       by_cases hkd:k=d
       · subst hkd
         simp only [upd,if_true] at hk
         exact hnval q y hk
       · simp only [upd,hkd,if_false,killS] at hk
         obtain ⟨y',hk'⟩:=kill3_gd hk
         exact h k q y' hk'
theorem Inv.put0 {G:Prop} {W:List Nat} {a:Act}(inv:Inv X N G Z w θ W σ a.tmps) {d:Nat} {r:Res} {v:Value}(hn:r.new=none)(ho:Out X Z w θ σ.m d r v Z' w' θ'):
 Inv X N G Z' w' θ' W (σ.put none r) a.tmps:=by
 obtain ⟨pre,post,val,ups,new,tch⟩:=r
 simp only at hn; subst hn
 exact ⟨λk=>(inv.slot k).goes ho.goes (λk=>ho.th k (λ_ _ e=>by cases e)) (λ_ _ _=>Iff.rfl),ho.mem,inv.path,inv.nog,inv.size⟩
theorem boolOf_slot {tm:Array Value} {x:AV} {c b:Bool} {g:Nat}(h:SRep Z w θ tm x (tm.getD g undef))(hc:boolOf x=some c)(hb:tm[g]? =some (.bool b)):c=b:=by
 have hg:tm.getD g undef= .bool b:=by rw [Array.getD_eq_getD_getElem?,hb]; rfl
 rw [hg] at h
 unfold boolOf at hc
 split at hc
 · simp only [sI] at hc; subst hc; cases h; rfl
 · simp only [sI] at hc; subst hc
   rename_i q c'
   by_cases hp:pathT tm q
   · have:=h.1 hp; cases this; rfl
   · have:=h.2 hp; simp [undef] at this
 · cases hc
theorem path_yes {tm:Array Value}(hs:∀ k,SRep Z w θ tm (σ.s k) (tm.getD k undef)) {g:Nat} {b:Bool} {p:List (Nat×Bool)}(hpg:pathG g b (σ.s g) =some p)(hb:tm[g]? =some (.bool b)):pathT tm p:=by
 have hg:tm.getD g undef= .bool b:=by rw [Array.getD_eq_getD_getElem?,hb]; rfl
 have h:=hs g
 rw [hg] at h
 unfold pathG at hpg
 split at hpg
 · simp only [sI] at hpg; subst hpg
   intro e he; simp at he; subst he; exact hb
 · simp only [sI] at hpg; subst hpg
   rename_i q c' heq
   rw [heq] at h
   by_cases hp:pathT tm q
   · exact pathT_app hp hb
   · have:=h.2 hp; simp [undef] at this
 · cases hpg
theorem path_last {tm:Array Value} {g:Nat} {b:Bool} {p:List (Nat×Bool)} {x:AV}(hpg:pathG g b x=some p)(hp:pathT tm p):tm[g]? =some (.bool b):=by
 unfold pathG at hpg
 split at hpg
 · simp only [sI] at hpg; subst hpg; exact hp (g,b) (by simp)
 · simp only [sI] at hpg; subst hpg; exact hp (g,b) (by simp)
 · cases hpg
theorem path_mem {G:Prop} {W:List Nat} {tm:Array Value}(inv:Inv X N G Z w θ W σ tm) {g:Nat} {b:Bool} {p:List (Nat×Bool)}(hg:g∈W)(hpg:pathG g b (σ.s g) =some p):∀ e∈p,e.1∈W∧∃ c,boolOf (σ.s e.1) =some c:=by
 unfold pathG at hpg
 split at hpg
 · rename_i c heq
   simp only [sI] at hpg; subst hpg
   intro e he; simp at he; subst he
   exact ⟨hg,c,by rw [heq]; rfl⟩
 · rename_i q c heq
   simp only [sI] at hpg; subst hpg
   intro e he
   rcases List.mem_append.1 he with he | he
   · exact inv.path g q _ heq e he
   · simp at he; subst he
     exact ⟨hg,c,by rw [heq]; rfl⟩
 · cases hpg
theorem pathP_of {tm:Array Value}(hs:∀ k,SRep Z w θ tm (σ.s k) (tm.getD k undef)):∀ {p:List (Nat×Bool)},(∀ e∈p,∃ c,boolOf (σ.s e.1) =some c)→pathT tm p→pathP σ.s p
 | [],_,_=>trivial
 | (g,b)::p,h,hp=>by
   obtain ⟨c,hc⟩:=h (g,b) (by simp)
   have:=boolOf_slot (hs g) hc (hp (g,b) (by simp))
   subst this
   exact ⟨hc,pathP_of hs (λe he=>h e (by simp [he])) (λe he=>hp e (by simp [he]))⟩
theorem pathB_of {s:Nat→AV}:∀ {p:List (Nat×Bool)},(∀ e∈p,∃ c,boolOf (s e.1) =some c)→(pathB s p=true↔pathP s p)
 | [],_=>by simp [pathB,pathP]
 | (g,b)::p,h=>by
   obtain ⟨c,hc⟩:=h (g,b) (by simp)
   simp only [pathB,pathP]
   rw [hc]
   simp only [Bool.and_eq_true,beq_iff_eq,sI]
   rw [pathB_of (λe he=>h e (by simp [he]))]
theorem pathT_of_P {tm:Array Value}(hs:∀ k,SRep Z w θ tm (σ.s k) (tm.getD k undef)) {g:Nat} {b:Bool}(hb:boolOf (σ.s g) =some b):(tm[g]? =some (.bool b))∨(∃ q,σ.s g= .gd q (.bool b)∧¬ pathT tm q∧tm.getD g undef=undef):=by
 have h:=hs g
 unfold boolOf at hb
 split at hb
 · rename_i c heq
   simp only [sI] at hb; subst hb
   rw [heq] at h
   left
   apply getD_bool
   generalize tm.getD g undef=v at h
   cases h; rfl
 · rename_i q c heq
   simp only [sI] at hb; subst hb
   rw [heq] at h
   by_cases hp:pathT tm q
   · left
     apply getD_bool
     have:=h.1 hp
     generalize tm.getD g undef=v at this
     cases this; rfl
   · exact .inr ⟨q,heq,hp,h.2 hp⟩
 · cases hb
theorem guardL_mem {s:Nat→AV} {p:List (Nat×Bool)}:∀ {l:List Prop} {q:Prop},q∈l→(∀ e∈guardL s p l,e)→pathP s p→q
 | x::l,q,h,hall,hp=>by
   simp only [guardL] at hall
   rcases List.mem_cons.1 h with rfl | h
   · exact hall _ (List.mem_cons_self ..) hp
   · exact guardL_mem h (λe he=>hall e (List.mem_cons_of_mem _ he)) hp
theorem rep_lst_z {z z':List AV} {es:List (List AV)} {v:Value}(hz:z.length=z'.length)(h:Rep Z w θ (.lst z es) v):Rep Z w θ (.lst z' es) v:=by
 cases h with
 | lst _ _ _ a cap f hc hm hzz hat hmem h1 h=>exact .lst θ z' es a cap f hc hm (λe he=>(hzz e he).trans hz) hat (λhne=>by
  obtain ⟨b,o,e1,e2,e3⟩:=hmem hne
  exact ⟨b,o,e1,e2,λi j c hcc=>by rw [← hz]; exact e3 i j c hcc⟩) h1 h
theorem mergeA_rep {c:Bool} {x y z:AV} {v:Value}(h:mergeA c x y=some z):(c=true→Rep Z w θ x v→Rep Z w θ z v)∧(c=false→Rep Z w θ y v→Rep Z w θ z v)∧z.atom=true:=by
 unfold mergeA at h
 split at h
 · split at h<;>try (cases h; done)
   rename_i hk
   simp only [sI] at h; subst h; subst hk
   exact ⟨λhc hr=>by subst hc; exact hr,λhc hr=>by subst hc; exact hr,rfl⟩
 · simp only [sI] at h; subst h
   exact ⟨λhc hr=>by subst hc; exact hr,λhc hr=>by subst hc; exact hr,rfl⟩
 · split at h<;>try (cases h; done)
   rename_i hz
   simp only [sI] at h; subst h
   exact ⟨λhc hr=>by subst hc; exact rep_lst_z hz hr,λhc hr=>by subst hc; exact hr,rfl⟩
 · cases h
theorem Zz0 {c:Bool}:∀ {xs ys zs:List AV} {vs:List Value},mergeL c xs ys=some zs→(c=true→Cells Z w θ xs vs→Cells Z w θ zs vs)∧(c=false→Cells Z w θ ys vs→Cells Z w θ zs vs)
 | [],[],zs,vs,h=>by simp [mergeL] at h; subst h; exact ⟨λ_ h=>h,λ_ h=>h⟩
 | [],_ ::_,zs,vs,h=>by simp [mergeL] at h
 | _ ::_,[],zs,vs,h=>by simp [mergeL] at h
 | x :: xs,y::ys,zs,vs,h=>by
   unfold mergeL at h
   split at h<;>try (cases h; done)
   rename_i v vs' hv hvs
   simp only [sI] at h; subst h
   constructor
   · intro hc hcs
     cases vs with
     | nil=>have:=hcs.len; simp at this
     | cons u us=>
       have hrest:Cells Z w θ xs us:=by
        have:=hcs.drop 1; simpa using this
       have h1:=(mergeA_rep (Z:=Z) (w:=w) (θ:=θ) (v:=u) hv)
       exact Cells.append (Cells.one' (h1.1 hc (hcs.rep 0 x u rfl rfl)) h1.2.2 (hcs.one u (by simp))) ((Zz0 hvs).1 hc hrest)
   · intro hc hcs
     cases vs with
     | nil=>have:=hcs.len; simp at this
     | cons u us=>
       have hrest:Cells Z w θ ys us:=by
        have:=hcs.drop 1; simpa using this
       have h1:=(mergeA_rep (Z:=Z) (w:=w) (θ:=θ) (v:=u) hv)
       exact Cells.append (Cells.one' (h1.2.1 hc (hcs.rep 0 y u rfl rfl)) h1.2.2 (hcs.one u (by simp))) ((Zz0 hvs).2 hc hrest)
theorem Mem.swap {m m':Nat→Option Blk}(h:Mem X Z w θ m)(hs:∀ r,(m' r).isSome=true→(m r).isSome=true)(hb:∀ r blk,m' r=some blk→BRep Z w θ r blk):Mem X Z w θ m':=
 ⟨hb,λr r' b h1 h2=>h.disj r r' b (hs r h1) (hs r' h2),λr b h1=>h.own r b (hs r h1),h.zlt,h.frame,h.zin,h.znew,h.fix,h.glb⟩
theorem mergeU_one {c:Bool} {m:Nat→Option Blk} {r:Nat} {b:Blk} {us:List (Nat×Blk)}(h:mergeU c m [(r,b)] =some us):∃ cs cs' cs'',b= .cells cs∧m r=some (.cells cs')∧mergeL c cs cs'=some cs''∧us= [(r,.cells cs'')]:=by
 cases b with
 | buf t z es=>simp [mergeU] at h
 | qb t z es=>simp [mergeU] at h
 | ms n ks=>simp [mergeU] at h
 | clo f z es i off=>simp [mergeU] at h
 | dead=>simp [mergeU] at h
 | cells cs=>
   simp only [mergeU] at h
   split at h<;>try (cases h; done)
   rename_i cs' us' hm hus
   simp only [sI] at hus; subst hus
   split at h<;>try (cases h; done)
   rename_i cs'' hcs
   simp only [sI] at h; subst h
   exact ⟨cs,cs',cs'',rfl,hm,hcs,rfl⟩
theorem Inv.putG {G:Prop} {W:List Nat} {a:Act}(hG:G)(inv:Inv X N G Z w θ W σ a.tmps) {d:Nat}(hdW:d∉W)(hdN:d < N) {p:List (Nat×Bool)}(hp:∀ e∈p,e.1∈W∧∃ c,boolOf (σ.s e.1) =some c)
 {x:AV} {v:Value} {us:List (Nat×Blk)} (hg:Goes Z w Z' w') (hm:Mem X Z' w' θ (updL σ.m us)) (h1:pathT a.tmps p→Rep Z' w' θ x v) (h2:¬ pathT a.tmps p→v=undef) {pre post:List Prop} {t:List Nat}:
 Inv X N G Z' w' θ (d::W) (σ.put (some d) ⟨pre,post,.gd p x,us,none,t⟩) (a.tmps.setIfInBounds d v):=by
 have hlt:d < a.tmps.size:=by rw [inv.size]; exact hdN
 have hgd:∀ k q y,σ.s k= .gd q y→∀ e∈q,e.1≠d:=λk q y h e he hed=>hdW (hed▸(inv.path k q y h e he).1)
 have hpd:∀ e∈p,e.1≠d:=λe he hed=>hdW (hed▸(hp e he).1)
 refine ⟨?_,hm,?_,.inl hG,by simpa using inv.size⟩
 · intro k
   simp only [St.put]
   by_cases hk:k=d
   · subst hk
     rw [getD_set_same hlt]
     simp only [upd,if_true]
     exact ⟨λhq=>h1 ((pathT_set hpd).1 hq),λhq=>h2 λhq'=>hq ((pathT_set hpd).2 hq')⟩
   · rw [getD_set_ne hk]
     simp only [upd,hk,if_false]
     exact (inv.slot k).goes hg (λ_=>rfl) (λq y e=>pathT_set (hgd k q y e))
 · intro k q y hk e he
   simp only [St.put] at hk ⊢
   by_cases hkd:k=d
   · subst hkd
     simp only [upd,if_true,AV.gd.injEq] at hk
     obtain ⟨rfl,_⟩:=hk
     obtain ⟨e1,c,e2⟩:=hp e he
     refine ⟨List.mem_cons_of_mem _ e1,c,?_⟩
     simp only [upd,hpd e he,if_false]
     exact e2
   · simp only [upd,hkd,if_false] at hk
     obtain ⟨e1,c,e2⟩:=inv.path k q y hk e he
     refine ⟨List.mem_cons_of_mem _ e1,c,?_⟩
     simp only [upd,hgd k q y hk e he,if_false]
     exact e2
theorem askL_mem:∀ {l:List Prop} {K:Prop},askL l K→(∀ q∈l,q)∧K
 | [],K,h=>⟨by simp,h⟩
 | x::l,K,h=>by
   obtain ⟨h1,h2⟩:=h
   obtain ⟨h3,h4⟩:=askL_mem h2
   exact ⟨λq hq=>by rcases List.mem_cons.1 hq with rfl | hq; exact h1; exact h3 q hq,h4⟩
theorem knowL_mem:∀ {l:List Prop} {K:Prop},knowL l K→(∀ q∈l,q)→K
 | [],K,h,_=>h
 | x::l,K,h,hl=>knowL_mem (h (hl x (by simp))) (λq hq=>hl q (by simp [hq]))
theorem mergeU_len {c:Bool} {m:Nat→Option Blk} {us us':List (Nat×Blk)}(h:mergeU c m us=some us')(hl:us.length≤1):us= []∧us'= []∨∃ r b,us= [(r,b)]:=by
 match us,hl with
 | [],_=>simp [mergeU] at h; exact .inl ⟨rfl,h⟩
 | [(r,b)],_=>exact .inr ⟨r,b,rfl⟩
end
section
variable {P:Program} {X:Cx} {σ:St} {Φ:Nat→Option Ctr} {N:Nat}
theorem callP_ups {t bs:List Nat} {x:Option (Prop×AV×List AV)} {r:Res}(h:callP t bs x=some r):r.ups.length≤1∧r.new=none:=by
 unfold callP at h
 split at h<;>try (cases h; done)
 split at h<;>try (cases h; done)
 simp only [sI] at h; subst h; exact ⟨by simp,rfl⟩
theorem callS_ups {r0:Nat} {bs:List Nat} {x:Option (Prop×AV×List AV)} {r:Res}(h:callS r0 bs x=some r):r.ups.length≤1∧r.new=none:=by
 unfold callS at h
 split at h<;>try (cases h; done)
 split at h<;>try (cases h; done)
 simp only [sI] at h; subst h; exact ⟨by simp,rfl⟩
theorem callR_ups {m:Nat→Option Blk} {C:Option Ctr} {vs:List AV} {r:Res}(h:callR m C vs=some r):r.ups.length≤1∧r.new=none:=by
 unfold callR at h
 split at h
 · unfold callN at h
   split at h
   · exact callP_ups h
   · cases h
 · split at h<;>try (cases h; done)
   unfold callC at h
   split at h<;>try (cases h; done)
   unfold callB at h
   split at h<;>try (cases h; done)
   split at h<;>try (cases h; done)
   exact callS_ups h
 · cases h
theorem q_ups {x:AV} {r:Res}(h:Res.q x=some r):r.ups= []∧r.new=none:=by simp [Res.q] at h; subst h; exact ⟨rfl,rfl⟩
theorem qp_ups {q:Prop} {x:AV} {r:Res}(h:Res.qp q x=some r):r.ups= []∧r.new=none:=by simp [Res.qp] at h; subst h; exact ⟨rfl,rfl⟩
theorem ownW_ups {d T:Nat} {z:List AV} {fn:List AV→Option (Prop×List (List AV))} {x:Option (List AV×List Nat)} {r:Res}(h:ownW d T z fn x=some r):r.ups= []:=by
 unfold ownW at h
 split at h<;>try (cases h; done)
 split at h<;>try (cases h; done)
 simp only [sI] at h; subst h; rfl
theorem callE_ups {d:Nat} {m:Nat→Option Blk} {C:Option Ctr} {vs:List AV} {r:Res}(h:callE d m C vs=some r):r.ups.length≤1:=by
 unfold callE at h
 split at h
 · rw [ownW_ups h]; simp
 · exact (callR_ups h).1
 · cases h
theorem cpR_ups {m:Nat→Option Blk} {sz:Nat} {x y:AV} {r:Res}(h:cpR m sz x y=some r):r.ups.length≤1∧r.new=none:=by
 rcases cpR_or m sz x y with ⟨r0,s,lo,hi,rfl⟩ | e
 · obtain ⟨T,z,es,ys,t',_,_,_,_,_,rfl⟩:=cpS_inv h
   exact ⟨by simp,rfl⟩
 · rw [e] at h
   obtain ⟨r0,q1,q2,q3,T,z,es,ys,t',rfl,h1,h2,rfl,hz1,rfl⟩:=cpR0_inv h
   exact ⟨by simp,rfl⟩
theorem toR_ups {x:Option AV} {r:Res}(h:toR x=some r):r.ups= []∧r.new=none:=by
 obtain ⟨y,_,h⟩:=toR_some h; exact q_ups h
theorem un1_ups {io:IOp} {x:AV} {r:Res}(h:un1 io x=some r):r.ups= []∧r.new=none:=by
 unfold un1 at h
 split at h<;>first | exact q_ups h | (cases h; done) | (split at h<;>first | exact q_ups h | cases h)
theorem evOp_ups {io:IOp} {d:Nat} {p:List (Nat×Bool)} {r:Res}(h:evOp Φ io d p σ=some r):r.ups.length≤1:=by
 have of0:(r.ups= []∧r.new=none)→r.ups.length≤1:=λh=>by rw [h.1]; simp
 cases io<;>simp only [evOp] at h<;>try (cases h; done)
 case pv k xs=>exact of0 ⟨(pvO_calm h).1,(pvO_calm h).2.1⟩
 case mov x=>obtain ⟨_,_,h⟩:=Qe0 h; exact of0 (un1_ups h)
 case not x=>obtain ⟨_,_,h⟩:=Qe0 h; exact of0 (un1_ups h)
 case neg x=>obtain ⟨_,_,h⟩:=Qe0 h; exact of0 (un1_ups h)
 case conv k x=>obtain ⟨_,_,h⟩:=Qe0 h; exact of0 (un1_ups h)
 case extract k x=>obtain ⟨_,_,h⟩:=Qe0 h; exact of0 (un1_ups h)
 case nilchk x=>obtain ⟨_,_,h⟩:=Qe0 h; exact of0 (un1_ups h)
 case pick c x y=>
  split at h<;>try (cases h; done)
  obtain ⟨_,_,h⟩:=Qe0 h
  obtain ⟨_,_,_,_,h⟩:=Qd0 h
  obtain ⟨_,_,_,_,_,_,h⟩:=pickV_some h
  exact of0 (q_ups h)
 case arith op x y=>
  obtain ⟨_,_,_,_,h⟩:=Qd0 h
  unfold arithR at h
  split at h<;>try (cases h; done)
  split at h<;>try (cases h; done)
  split at h<;>first | exact of0 (q_ups h) | exact of0 (qp_ups h) | cases h
 case cmp op ty x y=>obtain ⟨_,_,_,_,h⟩:=Qd0 h; exact of0 (toR_ups h)
 case eqa ng sh x y=>obtain ⟨_,_,_,_,h⟩:=Qd0 h; exact of0 (toR_ups h)
 case len ty x=>
  obtain ⟨y,_,h⟩:=Qe0 h
  rcases lenM_or σ.m ty y with ⟨r0,a0,b0,c0,rfl⟩ | heq
  · simp only [lenM] at h
    unfold lenV at h
    split at h<;>try (cases h; done)
    all_goals (split at h<;>try (cases h; done))
    all_goals (simp only [sI] at h; subst h; simp)
  · rw [heq] at h
    unfold lenR at h
    split at h<;>first | exact of0 (q_ups h) | (cases h; done) | (simp only [sI] at h; subst h; simp)
 case minmax mx xs=>
  split at h<;>try (cases h; done)
  exact of0 (toR_ups h)
 case faddr off x=>
  obtain ⟨_,_,h⟩:=Qe0 h
  unfold faddrR at h
  split at h<;>first | exact of0 (q_ups h) | cases h
 case iaddrS zr x i=>
  obtain ⟨_,_,_,_,h⟩:=Qd0 h
  unfold iaddrSM at h
  split at h
  · unfold iasV at h
    split at h<;>try (cases h; done)
    all_goals (split at h<;>try (cases h; done))
    all_goals (simp only [sI] at h; subst h; simp)
  · unfold iasP at h
    split at h<;>try (cases h; done)
    split at h<;>try (cases h; done)
    simp only [sI] at h; subst h; simp
  · unfold iaddrSR at h
    split at h<;>try (cases h; done)
    split at h<;>try (cases h; done)
    simp only [sI] at h; subst h; simp
 case iaddrA n sz x i=>
  obtain ⟨_,_,_,_,h⟩:=Qd0 h
  unfold iaddrAR at h
  split at h<;>first | exact of0 (qp_ups h) | cases h
 case load n ag x=>
  obtain ⟨_,_,h⟩:=Qe0 h
  unfold loadR at h
  split at h<;>try (cases h; done)
  · split at h<;>try (cases h; done)
    split at h<;>try (cases h; done)
    simp only [sI] at h; subst h; simp
  · split at h<;>try (cases h; done)
    exact of0 (q_ups h)
  · split at h<;>try (cases h; done)
    all_goals (split at h<;>try (cases h; done))
    all_goals (simp only [sI] at h; subst h; simp)
 case store n x v=>
  obtain ⟨_,_,_,_,h⟩:=Qd0 h
  unfold storeR at h
  split at h<;>try (cases h; done)
  all_goals (split at h<;>try (cases h; done))
  all_goals (split at h<;>try (cases h; done))
  all_goals (simp only [sI] at h; subst h; simp)
 case alloc z=>simp only [sI] at h; subst h; simp
 case box n x=>
  obtain ⟨_,_,h⟩:=Qe0 h
  unfold boxR at h
  split at h<;>try (cases h; done)
  simp only [sI] at h; subst h; simp
 case build z ps=>
  split at h<;>try (cases h; done)
  exact of0 (q_ups h)
 case bslice n z ps=>
  split at h<;>try (cases h; done)
  exact of0 (q_ups h)
 case call f xs=>
  split at h<;>try (cases h; done)
  exact callE_ups h
 case copy sz x y=>
  obtain ⟨_,_,_,_,h⟩:=Qd0 h
  exact (cpR_ups h).1
 case append e b z x y=>
  obtain ⟨_,_,_,_,h⟩:=Qd0 h
  unfold appQR at h
  split at h
  · unfold appQ at h
    split at h<;>try (cases h; done)
    split at h<;>try (cases h; done)
    simp only [sI] at h; subst h; simp
  unfold appR at h
  split at h<;>try (cases h; done)
  simp only [sI] at h; subst h; simp
 case mkmap n=>simp only [sI] at h; subst h; simp
 case mkclo f x=>
  obtain ⟨_,_,h⟩:=Qe0 h
  unfold cloR at h
  split at h<;>try (cases h; done)
  simp only [sI] at h; subst h; simp
 case mlook n x i=>
  obtain ⟨_,_,_,_,h⟩:=Qd0 h
  unfold lookR at h
  split at h<;>try (cases h; done)
  unfold lookM1 at h
  split at h<;>try (cases h; done)
  split at h<;>try (cases h; done)
  simp only [sI] at h; subst h; simp
 case mput n x i=>
  obtain ⟨_,_,_,_,h⟩:=Qd0 h
  unfold putR at h
  split at h<;>try (cases h; done)
  unfold putM1 at h
  split at h<;>try (cases h; done)
  split at h<;>try (cases h; done)
  simp only [sI] at h; subst h; simp
 case appZ e b z x y=>
  obtain ⟨_,_,_,_,h⟩:=Qd0 h
  unfold appZR at h
  split at h<;>try (cases h; done)
  simp only [sI] at h; subst h; simp
 case appD e b z x y=>
  obtain ⟨_,_,_,_,h⟩:=Qd0 h
  unfold appDR at h
  split at h
  · unfold appR at h
    split at h<;>try (cases h; done)
    simp only [sI] at h; subst h; simp
  · split at h<;>try (cases h; done)
    simp only [sI] at h; subst h; simp
  · cases h
 case mkF b z x y=>
  obtain ⟨_,_,_,_,h⟩:=Qd0 h
  unfold mkFR at h
  split at h<;>try (cases h; done)
  simp only [sI] at h; subst h; simp
 case mkslice e b z x y=>
  obtain ⟨_,_,_,_,h⟩:=Qd0 h
  unfold mkR at h
  split at h<;>try (cases h; done)
  simp only [sI] at h; subst h; simp
 case slice sz x l u=>
  unfold sliceQ at h
  split at h<;>try (cases h; done)
  split at h
  · unfold slQ at h
    split at h<;>try (cases h; done)
    split at h<;>try (cases h; done)
    simp only [sI] at h; subst h; simp
  unfold sliceO at h
  split at h<;>try (cases h; done)
  unfold sliceR at h
  split at h
  · split at h<;>try (cases h; done)
    simp only [sI] at h; subst h; simp
  · split at h<;>try (cases h; done)
    simp only [sI] at h; subst h; simp
  · unfold slB at h
    split at h<;>try (cases h; done)
    split at h<;>try (cases h; done)
    simp only [sI] at h; subst h; simp
  · split at h<;>try (cases h; done)
    unfold slP at h
    split at h<;>try (cases h; done)
    split at h<;>try (cases h; done)
    simp only [sI] at h; subst h; simp
  · cases h
 case s2b x=>
  obtain ⟨_,_,h⟩:=Qe0 h
  unfold s2bR at h
  split at h<;>try (cases h; done)
  simp only [sI] at h; subst h; simp
 case b2s x=>
  obtain ⟨_,_,h⟩:=Qe0 h
  unfold b2sR at h
  split at h
  · exact of0 (q_ups h)
  · split at h<;>try (cases h; done)
    simp only [sI] at h; subst h; simp
  · unfold b2sB at h
    split at h<;>try (cases h; done)
    split at h<;>try (cases h; done)
    simp only [sI] at h; subst h; simp
  · unfold b2sP at h
    split at h<;>try (cases h; done)
    split at h<;>try (cases h; done)
    simp only [sI] at h; subst h; simp
  · cases h
 case idxS x y=>
  obtain ⟨_,_,_,_,h⟩:=Qd0 h
  unfold idxSR at h
  split at h<;>try (cases h; done)
  simp only [sI] at h; subst h; simp
 case idxV n s ag x y=>
  obtain ⟨_,_,_,_,h⟩:=Qd0 h
  unfold idxVR at h
  split at h<;>try (cases h; done)
  split at h<;>try (cases h; done)
  simp only [sI] at h; subst h; simp
 case callv fs x xs=>
  split at h<;>try (cases h; done)
  · split at h<;>try (cases h; done)
    exact (callR_ups h).1
  · unfold cloV at h
    split at h<;>try (cases h; done)
    split at h<;>try (cases h; done)
    unfold tchR at h
    split at h<;>try (cases h; done)
    simp only [sI] at h; subst h; simp
 case bsliceO e n z ps=>
  split at h<;>try (cases h; done)
  simp only [sI] at h; subst h; simp
 case eqnil neg x=>
  obtain ⟨_,_,h⟩:=Qe0 h
  unfold nilR at h
  split at h
  · exact of0 (q_ups h)
  · split at h<;>first | exact of0 (q_ups h) | cases h
  · unfold nilV at h
    split at h<;>try (cases h; done)
    split at h<;>try (cases h; done)
    simp only [sI] at h; subst h; simp
  · cases h
 case shl n x=>
  obtain ⟨_,_,h⟩:=Qe0 h
  unfold shR at h
  split at h<;>try (cases h; done)
  split at h<;>first | exact of0 (q_ups h) | cases h
 case shr n x=>
  obtain ⟨_,_,h⟩:=Qe0 h
  unfold shR at h
  split at h<;>try (cases h; done)
  split at h<;>first | exact of0 (q_ups h) | cases h
 case fld off n ag x=>
  obtain ⟨_,_,h⟩:=Qe0 h
  unfold fldR at h
  split at h<;>try (cases h; done)
  split at h<;>first | exact of0 (q_ups h) | cases h
theorem put_new {n:Nat} {x i:A} {d:Nat} {p:List (Nat×Bool)} {r:Res}(h:evOp Φ (.mput n x i) d p σ=some r):r.new=none:=by
 simp only [evOp] at h
 obtain ⟨_,_,_,_,h⟩:=Qd0 h
 unfold putR at h
 split at h<;>try (cases h; done)
 unfold putM1 at h
 split at h<;>try (cases h; done)
 split at h<;>try (cases h; done)
 simp only [sI] at h; subst h; rfl
theorem store_new {n:Nat} {x v:A} {d:Nat} {p:List (Nat×Bool)} {r:Res}(h:evOp Φ (.store n x v) d p σ=some r):r.new=none:=by
 simp only [evOp] at h
 obtain ⟨_,_,_,_,h⟩:=Qd0 h
 unfold storeR at h
 split at h<;>try (cases h; done)
 all_goals (split at h<;>try (cases h; done))
 all_goals (split at h<;>try (cases h; done))
 all_goals (simp only [sI] at h; subst h; rfl)
def isSt:IOp→Bool
 | .pv .bad _=>true
 | .store _ _ _ | .mput _ _ _=>true
 | _=>false
theorem st_new {io:IOp}(hst:isSt io=true) {d:Nat} {p:List (Nat×Bool)} {r:Res}(h:evOp Φ io d p σ=some r):r.new=none:=by
 cases io<;>first | (cases hst; done) | exact (pvO_calm h).2.1 | exact store_new h | exact put_new h
theorem guardR_some {p:List (Nat×Bool)} {ro:Option Res} {r:Res}(h:guardR σ p ro=some r):∃ pre post v us t us',ro=some ⟨pre,post,v,us,none,t⟩∧(us= []∧us'= []∨(∃ e,p= [e])∧mergeU (pathB σ.s p) σ.m us=some us')∧
 r= ⟨guardL σ.s p pre,[],.gd p v,us',none,t⟩:=by
 unfold guardR at h
 split at h<;>try (cases h; done)
 · simp only [sI] at h
   exact ⟨_,_,_,[],_,[],rfl,.inl ⟨rfl,rfl⟩,h.symm⟩
 · split at h<;>try (cases h; done)
   rename_i e us' hus
   simp only [sI] at h
   exact ⟨_,_,_,_,_,us',rfl,.inr ⟨⟨e,rfl⟩,hus⟩,h.symm⟩
end
end Go.Ev
namespace Go.Ev
open Go Go.RowKit
section
variable {Φ:Nat→Option Ctr} {σ σ':St} {p:List (Nat×Bool)}
theorem ar_agr {x:A}(h:∀ k∈slotsA x,σ'.s k=σ.s k):ar σ' x=ar σ x:=by
 cases x with
 | t n=>exact h n (by simp [slotsA])
 | c v=>rfl
theorem av_agr {x:A}(h:∀ k∈slotsA x,σ'.s k=σ.s k):av σ' p x=av σ p x:=by simp only [av,ar_agr h]
theorem avs_agr:∀ {xs:List A},(∀ k∈slotsL xs,σ'.s k=σ.s k)→avs σ' p xs=avs σ p xs
 | [],_=>rfl
 | x::xs,h=>by
   simp only [slotsL,List.mem_append] at h
   simp only [avs,av_agr (p:=p) (λk hk=>h k (.inl hk)),avs_agr (λk hk=>h k (.inr hk))]
theorem fillA_agr:∀ {ps:List (Nat×Nat×A)} {cs:List AV},(∀ k∈slotsF ps,σ'.s k=σ.s k)→fillA σ' p cs ps=fillA σ p cs ps
 | [],_,_=>rfl
 | (off,n,x)::ps,cs,h=>by
   simp only [slotsF,List.mem_append] at h
   simp only [fillA,av_agr (p:=p) (λk hk=>h k (.inl hk))]
   split
   · split
     · split
       · exact fillA_agr (λk hk=>h k (.inr hk))
       · rfl
     · rfl
   · rfl
theorem fillS_agr {n:Nat}:∀ {ps:List (Nat×A)} {es:List (List AV)},(∀ k∈slotsG ps,σ'.s k=σ.s k)→fillS σ' p n es ps=fillS σ p n es ps
 | [],_,_=>rfl
 | (i, x)::ps,es,h=>by
   simp only [slotsG,List.mem_append] at h
   simp only [fillS,av_agr (p:=p) (λk hk=>h k (.inl hk))]
   split
   · split
     · split
       · exact fillS_agr (λk hk=>h k (.inr hk))
       · rfl
     · rfl
   · rfl
theorem loadR_agr {m m':Nat→Option Blk} {n:Nat} {ag:Bool} {v:AV} {r:Res}(h:loadR m n ag v=some r)(hm:∀ b∈r.tch,m' b=m b):loadR m' n ag v=some r:=by
 unfold loadR at h ⊢
 split at h
 · rename_i r0 o
   split at h<;>try (cases h; done)
   rename_i cs hcs
   split at h<;>try (cases h; done)
   rename_i x hx
   simp only [sI] at h; subst h
   rw [hm r0 (by simp),hcs]
   simp only [hx]
 · exact h
 · rename_i r0 sz i o
   split at h<;>try (cases h; done)
   all_goals rename_i T z es hcs
   all_goals (split at h<;>try (cases h; done))
   all_goals rename_i x hz hx
   all_goals (simp only [sI] at h; subst h)
   all_goals rw [hm r0 (by simp),hcs]
   all_goals simp only [hx,hz]
 · cases h
theorem storeR_agr {m m':Nat→Option Blk} {n:Nat} {x v:AV} {r:Res}(h:storeR m n x v=some r)(hm:∀ b∈r.tch,m' b=m b):storeR m' n x v=some r:=by
 unfold storeR at h ⊢
 split at h
 · rename_i vv r0 o
   split at h<;>try (cases h; done)
   rename_i vs cs hvs hcs
   split at h<;>try (cases h; done)
   rename_i hl
   simp only [sI] at h; subst h
   simp only [hm r0 (by simp),hcs,hvs,if_pos hl]
 · rename_i vv r0 sz i o
   split at h<;>try (cases h; done)
   rename_i vs T z es hvs hcs
   split at h<;>try (cases h; done)
   rename_i hl
   simp only [sI] at h; subst h
   simp only [hm r0 (by simp),hcs,hvs,hl]
 · cases h
section
variable {m m':Nat→Option Blk}
theorem lendA_agr {x y:AV} {bs:List Nat}(h:lendA m x=some (y,bs))(hm:∀ b∈bs,m' b=m b):lendA m' x=some (y,bs):=by
 unfold lendA at h ⊢
 split at h
 · rename_i r a b c
   have:m' r=m r:=by
    unfold lendB at h
    split at h<;>try (cases h; done)
    simp only [sI,Prod.mk.injEq] at h
    exact hm r (by rw [← h.2]; simp)
   simp only [this]; exact h
 · rename_i r sz lo hi
   have:m' r=m r:=by
    unfold lendP at h
    split at h<;>try (cases h; done)
    split at h<;>try (cases h; done)
    simp only [sI,Prod.mk.injEq] at h
    exact hm r (by rw [← h.2]; simp)
   simp only [this]; exact h
 all_goals exact h
theorem consL_agr {x x':Option (AV×List Nat)} {y y':Option (List AV×List Nat)} {q:List AV×List Nat}(h:consL x y=some q)(h1:∀ v b,x=some (v,b)→(∀ k∈b,k∈q.2)→x'=some (v,b))(h2:∀ v b,y=some (v,b)→(∀ k∈b,k∈q.2)→y'=some (v,b)):consL x' y'=some q:=by
 obtain ⟨ys,bs⟩:=q
 obtain ⟨v,b,vs,b',rfl,rfl,rfl,rfl⟩:=Zc0 h
 rw [h1 v b rfl (λk hk=>by simp [hk]),h2 vs b' rfl (λk hk=>by simp [hk])]
 rfl
theorem lendC_agr:∀ {xs ys:List AV} {bs:List Nat},lendC m xs=some (ys,bs)→(∀ b∈bs,m' b=m b)→lendC m' xs=some (ys,bs)
 | [],_,_,h,_=>h
 | x::xs,ys,bs,h,hm=>consL_agr (by simpa only [lendC] using h) (λv b e hb=>lendA_agr e λk hk=>hm k (hb k hk)) (λv b e hb=>lendC_agr e λk hk=>hm k (hb k hk))
theorem lend1_agr {x y:AV} {bs:List Nat}(h:lend1 m x=some (y,bs))(hm:∀ b∈bs,m' b=m b):lend1 m' x=some (y,bs):=by
 cases x with
 | agg cs=>
   simp only [lend1] at h ⊢
   cases hl:lendC m cs with
   | none=>rw [hl] at h; cases h
   | some q=>
     obtain ⟨ys,b⟩:=q
     rw [hl] at h
     simp only [aggL,sI,Prod.mk.injEq] at h
     obtain ⟨rfl,rfl⟩:=h
     rw [lendC_agr hl hm]; rfl
 | _=>simp only [lend1] at h ⊢; exact lendA_agr h hm
theorem lends_agr:∀ {xs ys:List AV} {bs:List Nat},lends m xs=some (ys,bs)→(∀ b∈bs,m' b=m b)→lends m' xs=some (ys,bs)
 | [],_,_,h,_=>h
 | x::xs,ys,bs,h,hm=>consL_agr (by simpa only [lends] using h) (λv b e hb=>lend1_agr e λk hk=>hm k (hb k hk)) (λv b e hb=>lends_agr e λk hk=>hm k (hb k hk))
end
section
variable {m m':Nat→Option Blk}
theorem lendO0_agr {x y:AV} {bs:List Nat}(h:lendO0 m x=some (y,bs))(hm:∀ b∈bs,m' b=m b):lendO0 m' x=some (y,bs):=by
 cases x<;>try exact h
 rename_i r a b c
 simp only [lendO0] at h ⊢
 unfold lendB at h ⊢
 split at h<;>try (cases h; done)
 rename_i T z es hr
 simp only [sI,Prod.mk.injEq] at h
 obtain ⟨rfl,rfl⟩:=h
 rw [hm r (by simp),hr]
theorem lendOL_agr:∀ {xs ys:List AV} {bs:List Nat},lendOL m xs=some (ys,bs)→(∀ b∈bs,m' b=m b)→lendOL m' xs=some (ys,bs)
 | [],_,_,h,_=>h
 | x::xs,ys,bs,h,hm=>consL_agr (by simpa only [lendOL] using h) (λv b e hb=>lendO0_agr e λk hk=>hm k (hb k hk)) (λv b e hb=>lendOL_agr e λk hk=>hm k (hb k hk))
theorem lendX_agr {x y:AV} {bs:List Nat}(h:lendX m x=some (y,bs))(hm:∀ b∈bs,m' b=m b):lendX m' x=some (y,bs):=by
 rcases lendX_or (m:=m) x with ⟨r,o,rfl⟩ | e
 · obtain ⟨cs,ds,bs',hr,hl,rfl,rfl⟩:=lendX_ob h
   simp only [lendX]
   rw [hm r (by simp),hr]
   simp only [lendOb]
   rw [lendOL_agr hl λb hb=>hm b (by simp [hb])]
   rfl
 · rw [e] at h
   have:=lend1_agr h hm
   rcases lendX_or (m:=m') x with ⟨r,o,rfl⟩ | e'
   · simp only [lend1,lendA] at h; cases h
   · rw [e']; exact this
theorem lendsX_agr:∀ {xs ys:List AV} {bs:List Nat},lendsX m xs=some (ys,bs)→(∀ b∈bs,m' b=m b)→lendsX m' xs=some (ys,bs)
 | [],_,_,h,_=>h
 | x::xs,ys,bs,h,hm=>consL_agr (by simpa only [lendsX] using h) (λv b e hb=>lendX_agr e λk hk=>hm k (hb k hk)) (λv b e hb=>lendsX_agr e λk hk=>hm k (hb k hk))
end
theorem callR_agr {m m':Nat→Option Blk} {C:Option Ctr} {vs:List AV} {r:Res}(h:callR m C vs=some r)(hm:∀ b∈r.tch,m' b=m b):callR m' C vs=some r:=by
 unfold callR at h ⊢
 split at h
 · rename_i fn
   cases hl:lendsX m vs with
   | none=>rw [hl] at h; cases h
   | some q=>
     obtain ⟨ys,bs⟩:=q
     rw [hl] at h
     have key:r.tch=bs:=by
      simp only [callN] at h
      unfold callP at h
      split at h<;>try (cases h; done)
      split at h<;>try (cases h; done)
      simp only [sI] at h; subst h; rfl
     rw [lendsX_agr hl (λb hb=>hm b (by rw [key]; exact hb))]
     exact h
 · rename_i fn
   split at h<;>try (cases h; done)
   rename_i r0 vs
   unfold callC at h
   split at h<;>try (cases h; done)
   rename_i cs h1
   cases hl:lends m vs with
   | none=>rw [hl] at h; cases h
   | some q=>
     obtain ⟨ys,bs⟩:=q
     rw [hl] at h
     have key:r.tch=r0::bs:=by
      simp only [callB] at h
      split at h<;>try (cases h; done)
      unfold callS at h
      split at h<;>try (cases h; done)
      split at h<;>try (cases h; done)
      simp only [sI] at h; subst h; rfl
     simp only [hm r0 (by simp [key]),h1,callC]
     rw [lends_agr hl (λb hb=>hm b (by rw [key]; simp [hb]))]
     exact h
 · cases h
theorem callE_agr {d:Nat} {m m':Nat→Option Blk} {C:Option Ctr} {vs:List AV} {r:Res}(h:callE d m C vs=some r)(hm:∀ b∈r.tch,m' b=m b):callE d m' C vs=some r:=by
 unfold callE at h ⊢
 split at h
 · cases hl:lends m vs with
   | none=>rw [hl] at h; cases h
   | some q=>
     obtain ⟨ys,bs⟩:=q
     rw [hl] at h
     have key:r.tch=bs:=by
      simp only [ownW] at h
      split at h<;>try (cases h; done)
      simp only [sI] at h; subst h; rfl
     rw [lends_agr hl (λb hb=>hm b (by rw [key]; exact hb))]
     exact h
 · exact callR_agr h hm
 · cases h
theorem ysOf_agr {m m':Nat→Option Blk} {k:Nat} {y:AV} {ys:List (List AV)} {t:List Nat}(h:ysOf m k y=some (ys,t))(hm:∀ b∈t,m' b=m b):ysOf m' k y=some (ys,t):=by
 unfold ysOf at h ⊢
 split at h
 · rename_i r sz lo hi
   have hmr:m' r=m r:=by
    unfold ysP at h
    split at h<;>try (cases h; done)
    split at h<;>try (cases h; done)
    simp only [sI,Prod.mk.injEq] at h
    exact hm r (by rw [← h.2]; simp)
   simp only [hmr]
   exact h
 · exact h
 · exact h
 · rename_i r _ _ _
   have hmr:m' r=m r:=by
    split at h<;>try (cases h; done)
    split at h<;>try (cases h; done)
    simp only [sI,Prod.mk.injEq] at h
    exact hm r (by rw [← h.2]; simp)
   simp only [hmr]
   exact h
 · cases h
theorem cpR_agr {m m':Nat→Option Blk} {sz:Nat} {x y:AV} {r:Res}(h:cpR m sz x y=some r)(hm:∀ b∈r.tch,m' b=m b):cpR m' sz x y=some r:=by
 rcases cpR_or m sz x y with ⟨r0,s,lo,hi,rfl⟩ | e
 · obtain ⟨T,z,es,ys,t',h1,h2,rfl,rfl,hz1,rfl⟩:=cpS_inv h
   simp only [cpR]
   rw [hm r0 (by simp),h1,ysOf_agr h2 (λb hb=>hm b (by simp [hb]))]
   simp only [cpS,hz1,and_self,decide_true]
 · rw [e] at h
   obtain ⟨r0,q1,q2,q3,T,z,es,ys,t',rfl,h1,h2,rfl,hz1,rfl⟩:=cpR0_inv h
   simp only [cpR,cpR0]
   rw [hm r0 (by simp),h1,ysOf_agr h2 (λb hb=>hm b (by simp [hb]))]
   simp only [cpB,hz1,and_self,decide_true]
theorem iaddrSM_agr {m m':Nat→Option Blk} {zero:List AV} {x i:AV} {r:Res}(h:iaddrSM m zero x i=some r)(hm:∀ b∈r.tch,m' b=m b):iaddrSM m' zero x i=some r:=by
 unfold iaddrSM at h ⊢
 split at h
 · rename_i r0 _ _ _ k n
   have hmr:m' r0=m r0:=by
    unfold iasV at h
    split at h<;>try (cases h; done)
    all_goals (split at h<;>try (cases h; done))
    all_goals (simp only [sI] at h; subst h)
    all_goals exact hm r0 (by simp)
   simp only [hmr]; exact h
 · rename_i r0 _ _ _ k n
   have hmr:m' r0=m r0:=by
    unfold iasP at h
    split at h<;>try (cases h; done)
    split at h<;>try (cases h; done)
    simp only [sI] at h; subst h
    exact hm r0 (by simp)
   simp only [hmr]; exact h
 · exact h
theorem b2sR_agr {m m':Nat→Option Blk} {x:AV} {r:Res}(h:b2sR m x=some r)(hm:∀ b∈r.tch,m' b=m b):b2sR m' x=some r:=by
 unfold b2sR at h ⊢
 split at h
 · exact h
 · exact h
 · rename_i r0 _ _ _
   have hmr:m' r0=m r0:=by
    unfold b2sB at h
    split at h<;>try (cases h; done)
    split at h<;>try (cases h; done)
    simp only [sI] at h; subst h
    exact hm r0 (by simp)
   simp only [hmr]; exact h
 · rename_i r0 _ _ _
   have hmr:m' r0=m r0:=by
    unfold b2sP at h
    split at h<;>try (cases h; done)
    split at h<;>try (cases h; done)
    simp only [sI] at h; subst h
    exact hm r0 (by simp)
   simp only [hmr]; exact h
 · cases h
theorem nilR_agr {m m':Nat→Option Blk} {ng:Bool} {x:AV} {r:Res}(h:nilR m ng x=some r)(hm:∀ b∈r.tch,m' b=m b):nilR m' ng x=some r:=by
 unfold nilR at h ⊢
 split at h
 · exact h
 · exact h
 · rename_i r0 _ _ _
   have hmr:m' r0=m r0:=by
    unfold nilV at h
    split at h<;>try (cases h; done)
    split at h<;>try (cases h; done)
    simp only [sI] at h; subst h
    exact hm r0 (by simp)
   simp only [hmr]; exact h
 · cases h
theorem sliceR_agr {m m':Nat→Option Blk} {sz:Nat} {x:AV} {lo hi:Option AV} {r:Res}(h:sliceR m sz x lo hi=some r)(hm:∀ b∈r.tch,m' b=m b):sliceR m' sz x lo hi=some r:=by
 unfold sliceR at h ⊢
 split at h
 · exact h
 · exact h
 · rename_i r0 _ _ _
   have hmr:m' r0=m r0:=by
    unfold slB at h
    split at h<;>try (cases h; done)
    split at h<;>try (cases h; done)
    simp only [sI] at h; subst h
    exact hm r0 (by simp)
   simp only [hmr]; exact h
 · rename_i r0 _ _ _
   split at h<;>try (cases h; done)
   rename_i hsz
   have hmr:m' r0=m r0:=by
    unfold slP at h
    split at h<;>try (cases h; done)
    split at h<;>try (cases h; done)
    simp only [sI] at h; subst h
    exact hm r0 (by simp)
   simp only [hmr,hsz]; exact h
 · cases h
theorem boundA_agr {x:Option A}(h:∀ k∈slotsO x,σ'.s k=σ.s k):boundA σ' p x=boundA σ p x:=by
 cases x with
 | none=>rfl
 | some x=>simp only [boundA]; rw [av_agr h]
theorem baseOf_agr {m m':Nat→Option Blk} {e k d:Nat} {x:AV} {i:Nat} {es:List (List AV)} {t:List Nat}(h:baseOf m e k d x=some (i,es,t))(hm:∀ b∈t,m' b=m b):baseOf m' e k d x=some (i,es,t):=by
 unfold baseOf at h ⊢
 split at h
 · exact h
 · rename_i r _ _ _
   have hmr:m' r=m r:=by
    split at h<;>try (cases h; done)
    split at h<;>try (cases h; done)
    simp only [sI,Prod.mk.injEq] at h
    exact hm r (by rw [← h.2.2]; simp)
   simp only [hmr]
   exact h
 · cases h
theorem appR_agr {m m':Nat→Option Blk} {e b d:Nat} {z:List AV} {x y:AV} {r:Res}(h:appR m e b z d x y=some r)(hm:∀ b∈r.tch,m' b=m b):appR m' e b z d x y=some r:=by
 unfold appR at h ⊢
 split at h<;>try (cases h; done)
 rename_i i es t ys t' h1 h2
 simp only [sI] at h; subst h
 rw [baseOf_agr h1 (λb hb=>hm b (by simp [hb])),ysOf_agr h2 (λb hb=>hm b (by simp [hb]))]
theorem isQ_vw {m m':Nat→Option Blk} {r a b c:Nat}(h:m' r=m r):isQ m' (.vw r a b c) =isQ m (.vw r a b c):=by
 simp only [isQ,h]
theorem isQ_nvw {m m':Nat→Option Blk} {x:AV}(h:∀ r a b c,x≠ .vw r a b c):isQ m' x=isQ m x:=by
 cases x<;>first | rfl | exact absurd rfl (h _ _ _ _)
theorem appQR_agr {m m':Nat→Option Blk} {e b d:Nat} {z:List AV} {x y:AV} {r:Res}(h:appQR m e b z d x y=some r)(hm:∀ b∈r.tch,m' b=m b):appQR m' e b z d x y=some r:=by
 unfold appQR at h ⊢
 split at h
 · rename_i r0 hq
   obtain ⟨_,_,_,_,_,_,rfl,hr0⟩:=isQ_some hq
   unfold appQ at h
   split at h<;>try (cases h; done)
   rename_i t1 z' es ys t2 hb hys
   split at h<;>try (cases h; done)
   rename_i hc
   simp only [sI] at h; subst h
   have e1:m' r0=m r0:=hm r0 (by simp)
   have e2:ysOf m' z.length y=some (ys,t2):=ysOf_agr hys (λb hb=>hm b (by simp [hb]))
   rw [isQ_vw e1,hq]
   simp only [e1,hb,e2,appQ,hc]
 · rename_i hq
   have key:isQ m' x=none:=by
    by_cases hx:∃ r0 a b c,x= .vw r0 a b c
    · obtain ⟨r0,a,b,c,rfl⟩:=hx
      rw [isQ_vw ?_,hq]
      unfold appR at h
      split at h<;>try (cases h; done)
      rename_i i es t ys t' hb hys
      simp only [sI] at h; subst h
      refine hm r0 ?_
      unfold baseOf at hb
      simp only at hb
      split at hb<;>try (cases hb; done)
      split at hb<;>try (cases hb; done)
      simp only [sI,Prod.mk.injEq] at hb
      obtain ⟨_,_,rfl⟩:=hb
      simp
    · rw [isQ_nvw (m:=m) (λr a b c e=>hx ⟨r,a,b,c,e⟩),hq]
   rw [key]
   exact appR_agr h hm
theorem sliceO_tch {m:Nat→Option Blk} {sz r0 a b c:Nat} {lo hi:Option (Option AV)} {r:Res}(h:sliceO m sz (some (.vw r0 a b c)) lo hi=some r):r0∈r.tch:=by
 cases lo with
 | none=>cases h
 | some lo=>
   cases hi with
   | none=>cases h
   | some hi=>
     have h:slB r0 sz lo hi (m r0) =some r:=h
     unfold slB at h
     split at h<;>try (cases h; done)
     split at h<;>try (cases h; done)
     simp only [sI] at h; subst h
     simp
theorem sliceQ_agr {m m':Nat→Option Blk} {sz:Nat} {x:Option AV} {lo hi:Option (Option AV)} {r:Res}(h:sliceQ m sz x lo hi=some r)(hm:∀ b∈r.tch,m' b=m b):sliceQ m' sz x lo hi=some r:=by
 unfold sliceQ at h ⊢
 split at h<;>try (cases h; done)
 rename_i v
 try simp only
 split at h
 · rename_i r0 hq
   obtain ⟨_,_,_,_,_,_,rfl,hr0⟩:=isQ_some hq
   unfold slQ at h
   split at h<;>try (cases h; done)
   rename_i lo0 t z es hlo hhi hb
   split at h<;>try (cases h; done)
   rename_i l h1 h2
   simp only [sI] at h; subst h
   have e1:m' r0=m r0:=hm r0 (by simp)
   rw [isQ_vw e1,hq]
   simp only [e1,hb,slQ,h1,h2]
 · rename_i hq
   have key:isQ m' v=none:=by
    by_cases hx:∃ r0 a b c,v= .vw r0 a b c
    · obtain ⟨r0,a,b,c,rfl⟩:=hx
      rw [isQ_vw (hm r0 (sliceO_tch h)),hq]
    · rw [isQ_nvw (m:=m) (λr a b c e=>hx ⟨r,a,b,c,e⟩),hq]
   rw [key]
   simp only
   unfold sliceO at h ⊢
   split at h<;>try (cases h; done)
   exact sliceR_agr h hm
theorem cloV_agr {m m':Nat→Option Blk} {fs:List Nat} {r0:Nat} {vs:List AV} {r:Res}(h:cloV Φ m fs r0 vs (m r0) =some r)(hm:∀ b∈r.tch,m' b=m b):cloV Φ m' fs r0 vs (m' r0) =some r:=by
 unfold cloV at h
 split at h<;>try (cases h; done)
 rename_i f z es i off hb
 split at h<;>try (cases h; done)
 rename_i hc
 unfold tchR at h
 split at h<;>try (cases h; done)
 rename_i pre post v t hcr
 simp only [sI] at h; subst h
 have e1:m' r0=m r0:=hm r0 (by simp)
 have e2:=callR_agr (m':=m') hcr (λb hb=>hm b (by simp only at hb; simp [hb]))
 rw [e1,hb]
 simp only [cloV,hc,e2,tchR]
theorem lookR_agr {m m':Nat→Option Blk} {n:Nat} {x i:AV} {r:Res}(h:lookR m n x i=some r)(hm:∀ b∈r.tch,m' b=m b):lookR m' n x i=some r:=by
 unfold lookR at h ⊢
 split at h<;>try (cases h; done)
 rename_i r0 _ _ _
 try simp only
 unfold lookM1 at h
 split at h<;>try (cases h; done)
 rename_i n' ks hb
 split at h<;>try (cases h; done)
 rename_i k hn hk
 simp only [sI] at h; subst h
 have e1:m' r0=m r0:=hm r0 (by simp)
 rw [e1,hb]
 simp only [lookM1,hn,hk]
theorem putR_agr {m m':Nat→Option Blk} {n:Nat} {x i:AV} {r:Res}(h:putR m n x i=some r)(hm:∀ b∈r.tch,m' b=m b):putR m' n x i=some r:=by
 unfold putR at h ⊢
 split at h<;>try (cases h; done)
 rename_i r0 _ _ _
 try simp only
 unfold putM1 at h
 split at h<;>try (cases h; done)
 rename_i n' ks hb
 split at h<;>try (cases h; done)
 rename_i k hn hk
 simp only [sI] at h; subst h
 have e1:m' r0=m r0:=hm r0 (by simp)
 rw [e1,hb]
 simp only [putM1,hn,hk]
theorem appZR_agr {m m':Nat→Option Blk} {e b d:Nat} {z:List AV} {x y:AV} {r:Res}(h:appZR m e b z d x y=some r)(hm:∀ b∈r.tch,m' b=m b):appZR m' e b z d x y=some r:=by
 unfold appZR at h ⊢
 split at h<;>try (cases h; done)
 rename_i i es t kv n h1
 simp only [sI] at h; subst h
 rw [baseOf_agr h1 (λb hb=>hm b (by simp [hb]))]
theorem appDR_agr {m m':Nat→Option Blk} {e b d:Nat} {z:List AV} {x y:AV} {r:Res}(h:appDR m e b z d x y=some r)(hm:∀ b∈r.tch,m' b=m b):appDR m' e b z d x y=some r:=by
 unfold appDR at h ⊢
 split at h
 · exact appR_agr h hm
 · split at h<;>try (cases h; done)
   rename_i i es t ys t' h0 h1 h2
   simp only [sI] at h; subst h
   rw [h0,baseOf_agr h1 (λb hb=>hm b (by simp [hb])),ysOf_agr h2 (λb hb=>hm b (by simp [hb]))]
 · cases h
theorem evOp_agr {io:IOp} {d:Nat} {r:Res}(h:evOp Φ io d p σ=some r)(hs:∀ k∈io.reads,σ'.s k=σ.s k)(hm:∀ b∈r.tch,σ'.m b=σ.m b):evOp Φ io d p σ'=some r:=by
 cases io<;>simp only [IOp.reads,List.mem_append] at hs<;>simp only [evOp] at h ⊢<;>try (cases h; done)
 case pv k xs=>rw [avs_agr hs]; exact h
 case mov x=>rw [av_agr hs]; exact h
 case not x=>rw [av_agr hs]; exact h
 case neg x=>rw [av_agr hs]; exact h
 case conv k x=>rw [av_agr hs]; exact h
 case extract k x=>rw [av_agr hs]; exact h
 case nilchk x=>rw [av_agr hs]; exact h
 case pick c x y=>
  split at h<;>try (cases h; done)
  rename_i k hk
  rw [av_agr (λk hk=>hs k (.inl hk)),av_agr (λk hk=>hs k (.inr (.inl hk))),av_agr (λk hk=>hs k (.inr (.inr hk)))]
  exact h
 case arith op x y=>rw [av_agr (λk hk=>hs k (.inl hk)),av_agr (λk hk=>hs k (.inr hk))]; exact h
 case cmp op ty x y=>rw [av_agr (λk hk=>hs k (.inl hk)),av_agr (λk hk=>hs k (.inr hk))]; exact h
 case eqa ng sh x y=>rw [av_agr (λk hk=>hs k (.inl hk)),av_agr (λk hk=>hs k (.inr hk))]; exact h
 case len ty x=>
  rw [av_agr hs]
  obtain ⟨y,hy,h⟩:=Qe0 h
  rw [hy]
  show lenM σ'.m ty y=some r
  rcases lenM_or σ.m ty y with ⟨r0,a0,b0,c0,rfl⟩ | heq
  · simp only [lenM] at h ⊢
    have key:σ'.m r0=σ.m r0:=by
     unfold lenV at h
     split at h<;>try (cases h; done)
     all_goals (split at h<;>try (cases h; done))
     all_goals (simp only [sI] at h; subst h)
     all_goals exact hm r0 (by simp)
    rw [key]; exact h
  · rcases lenM_or σ'.m ty y with ⟨r0,a0,b0,c0,rfl⟩ | heq'
    · simp only [lenM] at h ⊢
      have key:σ'.m r0=σ.m r0:=by
       unfold lenV at h
       split at h<;>try (cases h; done)
       all_goals (split at h<;>try (cases h; done))
       all_goals (simp only [sI] at h; subst h)
       all_goals exact hm r0 (by simp)
      rw [key]; exact h
    · rw [heq'] ; rw [heq] at h; exact h
 case minmax mx xs=>rw [avs_agr hs]; exact h
 case faddr off x=>rw [av_agr hs]; exact h
 case iaddrS zr x i=>
  rw [av_agr (λk hk=>hs k (.inl hk)),av_agr (λk hk=>hs k (.inr hk))]
  obtain ⟨y,z,hy,hz,h⟩:=Qd0 h
  rw [hy,hz]
  exact iaddrSM_agr h hm
 case iaddrA n sz x i=>rw [av_agr (λk hk=>hs k (.inl hk)),av_agr (λk hk=>hs k (.inr hk))]; exact h
 case load n ag x=>
  rw [av_agr hs]
  obtain ⟨v,hv,h⟩:=Qe0 h
  rw [hv]
  exact loadR_agr h hm
 case store n x v=>
  rw [av_agr (λk hk=>hs k (.inl hk)),av_agr (λk hk=>hs k (.inr hk))]
  obtain ⟨y,z,hy,hz,h⟩:=Qd0 h
  rw [hy,hz]
  exact storeR_agr h hm
 case alloc z=>exact h
 case box n x=>rw [av_agr hs]; exact h
 case build z ps=>rw [fillA_agr hs]; exact h
 case bslice n z ps=>rw [fillS_agr hs]; exact h
 case append e b z x y=>
  rw [av_agr (λk hk=>hs k (.inl hk)),av_agr (λk hk=>hs k (.inr hk))]
  obtain ⟨vx,vy,hx,hy,h⟩:=Qd0 h
  rw [hx,hy]
  exact appQR_agr h hm
 case appZ e b z x y=>
  rw [av_agr (λk hk=>hs k (.inl hk)),av_agr (λk hk=>hs k (.inr hk))]
  obtain ⟨vx,vy,hx,hy,h⟩:=Qd0 h
  rw [hx,hy]
  exact appZR_agr h hm
 case appD e b z x y=>
  rw [av_agr (λk hk=>hs k (.inl hk)),av_agr (λk hk=>hs k (.inr hk))]
  obtain ⟨vx,vy,hx,hy,h⟩:=Qd0 h
  rw [hx,hy]
  exact appDR_agr h hm
 case call f xs=>
  rw [avs_agr hs]
  split at h<;>try (cases h; done)
  exact callE_agr h hm
 case copy sz x y=>
  rw [av_agr (λk hk=>hs k (.inl hk)),av_agr (λk hk=>hs k (.inr hk))]
  obtain ⟨vx,vy,hx,hy,h⟩:=Qd0 h
  rw [hx,hy]
  exact cpR_agr h hm
 case callv fs x xs=>
  rw [av_agr (λk hk=>hs k (.inl hk)),avs_agr (λk hk=>hs k (.inr hk))]
  split at h<;>try (cases h; done)
  · split at h<;>try (cases h; done)
    exact callR_agr h hm
  · exact cloV_agr h hm
 case mkmap n=>exact h
 case mkclo f x=>rw [av_agr hs]; exact h
 case mlook n x i=>
  rw [av_agr (λk hk=>hs k (.inl hk)),av_agr (λk hk=>hs k (.inr hk))]
  obtain ⟨vx,vy,hx,hy,h⟩:=Qd0 h
  rw [hx,hy]
  exact lookR_agr h hm
 case mput n x i=>
  rw [av_agr (λk hk=>hs k (.inl hk)),av_agr (λk hk=>hs k (.inr hk))]
  obtain ⟨vx,vy,hx,hy,h⟩:=Qd0 h
  rw [hx,hy]
  exact putR_agr h hm
 case bsliceO e n z ps=>rw [fillS_agr hs]; exact h
 case eqnil ng x=>
  rw [av_agr hs]
  obtain ⟨v,hv,h⟩:=Qe0 h
  rw [hv]
  exact nilR_agr h hm
 case shl n x=>rw [av_agr hs]; exact h
 case shr n x=>rw [av_agr hs]; exact h
 case b2s x=>
  rw [av_agr hs]
  obtain ⟨v,hv,h⟩:=Qe0 h
  rw [hv]
  exact b2sR_agr h hm
 case s2b x=>rw [av_agr hs]; exact h
 case idxS x i=>rw [av_agr (λk hk=>hs k (.inl hk)),av_agr (λk hk=>hs k (.inr hk))]; exact h
 case idxV n s ag x i=>rw [av_agr (λk hk=>hs k (.inl hk)),av_agr (λk hk=>hs k (.inr hk))]; exact h
 case slice sz x l u=>
  rw [av_agr (λk hk=>hs k (.inl hk)),boundA_agr (λk hk=>hs k (.inr (.inl hk))),boundA_agr (λk hk=>hs k (.inr (.inr hk)))]
  exact sliceQ_agr h hm
 case mkF b z x y=>rw [av_agr (λk hk=>hs k (.inl hk)),av_agr (λk hk=>hs k (.inr hk))]; exact h
 case mkslice e b z x y=>rw [av_agr (λk hk=>hs k (.inl hk)),av_agr (λk hk=>hs k (.inr hk))]; exact h
 case fld off n ag x=>rw [av_agr hs]; exact h
theorem pathP_agr {s s':Nat→AV}:∀ {p:List (Nat×Bool)},(∀ e∈p,s' e.1=s e.1)→pathP s' p=pathP s p
 | [],_=>rfl
 | (g,b)::p,h=>by
   simp only [pathP,h (g,b) (by simp),pathP_agr (λe he=>h e (List.mem_cons_of_mem _ he))]
theorem pathB_agr {s s':Nat→AV}:∀ {p:List (Nat×Bool)},(∀ e∈p,s' e.1=s e.1)→pathB s' p=pathB s p
 | [],_=>rfl
 | (g,b)::p,h=>by
   simp only [pathB,h (g,b) (by simp),pathB_agr (λe he=>h e (List.mem_cons_of_mem _ he))]
theorem guardL_agr {s s':Nat→AV}(h:∀ e∈p,s' e.1=s e.1):∀ {l:List Prop},guardL s' p l=guardL s p l
 | []=>rfl
 | q::l=>by simp only [guardL,pathP_agr h,guardL_agr h]
theorem mergeU_agr {c:Bool} {m m':Nat→Option Blk}:∀ {us us':List (Nat×Blk)},mergeU c m us=some us'→(∀ b∈us'.map (·.1),m' b=m b)→mergeU c m' us=some us'
 | [],us',h,_=>h
 | (r,.buf t z es)::us,us',h,hm=>by simp [mergeU] at h
 | (r,.cells cs)::us,us',h,hm=>by
   simp only [mergeU] at h ⊢
   split at h<;>try (cases h; done)
   rename_i cs' us'' h1 h2
   split at h<;>try (cases h; done)
   rename_i cs'' h3
   simp only [sI] at h; subst h
   rw [hm r (by simp),h1,mergeU_agr h2 (λb hb=>hm b (by simp at hb ⊢; exact .inr hb))]
   simp only [h3]
theorem evG_agr {o:RO} {r:Res}(h:evG Φ o σ=some r)(hs:∀ k∈o.reads,σ'.s k=σ.s k)(hp:∀ k∈pslots r.val,σ'.s k=σ.s k)(hm:∀ b∈r.tch,σ'.m b=σ.m b)(hu:∀ b∈r.ups.map (·.1),σ'.m b=σ.m b):evG Φ o σ'=some r:=by
 obtain ⟨dst,op,guard,af⟩:=o
 cases guard with
 | none=>
   simp only [RO.reads,List.nil_append] at hs
   exact evOp_agr h hs hm
 | some gb=>
   obtain ⟨g,b⟩:=gb
   simp only [RO.reads,List.cons_append,List.nil_append,List.mem_cons] at hs
   simp only [evG] at h ⊢
   rw [hs g (.inl rfl)]
   split at h<;>try (cases h; done)
   rename_i q hq
   obtain ⟨pre,post,v,us,t,us',hop,hmer,rfl⟩:=guardR_some h
   have hpa:∀ e∈q,σ'.s e.1=σ.s e.1:=λe he=>hp e.1 (by simp only [pslots,List.mem_map]; exact ⟨e,he,rfl⟩)
   have hop':=evOp_agr (σ':=σ') hop (λk hk=>hs k (.inr hk)) hm
   rw [hop] at h
   rw [hop']
   cases us with
   | nil=>
     simp only [guardR] at h ⊢
     rw [guardL_agr hpa]
     exact h
   | cons u us=>
     simp only [guardR] at h ⊢
     rw [guardL_agr hpa,pathB_agr hpa]
     split at h<;>try (cases h; done)
     rename_i e us'' hus
     simp only [sI,Res.mk.injEq] at h
     obtain ⟨_,_,_,rfl,_⟩:=h
     rw [mergeU_agr hus hu]
end
structure Clean (b:Nat)(σ:St):Prop where
 s:killS b σ.s=σ.s
 m:killM b σ.m=σ.m
def updO (s:Nat→AV):Option Nat→AV→Nat→AV
 | none,_=>s
 | some d,v=>upd s d v
def newU (d:Option Nat)(r:Res):List (Nat×Blk):=r.ups ++ (match r.new,d with
 | some (i,b),some _=>[(i,b)]
 | _,_=>[])
theorem newU_ids (d:Option Nat)(r:Res):(newU d r).map (·.1) =idsR d r:=by
 unfold newU idsR
 rw [List.map_append]
 congr 1
 cases r.new<;>cases d<;>rfl
def cleanN (d:Option Nat)(r:Res)(σ:St):Prop:=match r.new,d with
 | some (i,_),some _=>Clean i σ
 | _,_=>True
theorem killM_updL (b:Nat):∀ (us:List (Nat×Blk))(m:Nat→Option Blk),killM b (updL m us) =updL (killM b m) (us.map λu=>(u.1,killB b u.2))
 | [],m=>rfl
 | (r,k)::us,m=>by
   simp only [updL,List.map_cons]
   rw [killM_updL b us]
   congr 1
   funext j
   simp only [killM,updM]
   by_cases h:j=r
   · cases k<;>simp [h,killB]
   · simp [h]
theorem updL_app:∀ (us:List (Nat×Blk))(m:Nat→Option Blk)(vs:List (Nat×Blk)),updL m (us ++ vs) =updL (updL m us) vs
 | [],_,_=>rfl
 | (r,b)::us,m,vs=>by simp only [List.cons_append,updL]; exact updL_app us _ vs
theorem deadL_kill (i:Nat):∀ (us:List (Nat×Blk)),deadL us=true→us.map (λu=>(u.1,killB i u.2)) =us
 | [],_=>rfl
 | (r,b)::us,h=>by
   simp only [deadL,Bool.and_eq_true] at h
   rw [List.map_cons,deadL_kill i us h.2]
   cases b with
   | dead=>rfl
   | cells cs=>simp [isDead] at h
   | buf t z es=>simp [isDead] at h
   | qb t z es=>simp [isDead] at h
   | ms n ks=>simp [isDead] at h
   | clo f z es i off=>simp [isDead] at h
theorem put_clean {d:Option Nat} {r:Res} {σ:St}(hn:newOK d r)(hc:cleanN d r σ):σ.put d r= ⟨updO σ.s d r.val,updL σ.m (newU d r)⟩:=by
 obtain ⟨pre,post,v,us,new,t⟩:=r
 cases d with
 | none=>
   cases new with
   | none=>simp [St.put,updO,newU]
   | some b=>exact hn.elim
 | some d=>
   cases new with
   | none=>simp [St.put,updO,newU]
   | some b=>
     obtain ⟨i,b⟩:=b
     obtain ⟨h0,h1,h2⟩:=hn
     simp only at h0 h1 h2
     have hs:killS i σ.s=σ.s:=hc.s
     have hm:killM i σ.m=σ.m:=hc.m
     have hk:killB i b=b:=by
      cases b with
      | cells cs=>simpa [killB] using h2
      | buf t z es=>rfl
      | qb t z es=>rfl
      | ms n ks=>rfl
      | clo f z es i off=>rfl
      | dead=>rfl
     have hl:liveB b=some b:=by rwa [hk] at h2
     have hu:us.map (λu=>(u.1,killB i u.2)) =us:=deadL_kill i us h1
     simp only [St.put,updO,newU,hs]
     rw [killM_updL,hm,hu,hk,updL_app]
     simp only [updL,hl]
def lastU:List (Nat×Blk)→Nat→Option (Option Blk)
 | [],_=>none
 | (r,b)::us,k=>(lastU us k).or (if k=r then some (liveB b) else none)
theorem updL_last:∀ (us:List (Nat×Blk))(m:Nat→Option Blk)(k:Nat),updL m us k=(lastU us k).getD (m k)
 | [],m,k=>by simp [updL,lastU]
 | (r,b)::us,m,k=>by
   simp only [updL,lastU]
   rw [updL_last us]
   cases lastU us k with
   | some x=>rfl
   | none=>simp only [Option.none_or,updM,Option.getD_none]; split<;>simp
theorem lastU_none:∀ {us:List (Nat×Blk)} {k:Nat},k∉us.map (·.1)→lastU us k=none
 | [],k,_=>rfl
 | (r,b)::us,k,h=>by
   simp only [List.map_cons,List.mem_cons,not_or] at h
   simp [lastU,lastU_none h.2,h.1]
theorem updL_out {us:List (Nat×Blk)} {m:Nat→Option Blk} {k:Nat}(h:k∉us.map (·.1)):updL m us k=m k:=by
 rw [updL_last,lastU_none h]; rfl
theorem updL_comm {us vs:List (Nat×Blk)} {m:Nat→Option Blk}(h:∀ k∈us.map (·.1),k∉vs.map (·.1)):updL (updL m us) vs=updL (updL m vs) us:=by
 funext k
 rw [updL_last,updL_last,updL_last,updL_last]
 by_cases hk:k∈us.map (·.1)
 · rw [lastU_none (h k hk)]; simp
 · rw [lastU_none hk]; simp
theorem updO_comm {s:Nat→AV} {d e:Option Nat} {v u:AV}(h:∀ k,d=some k→e≠some k):updO (updO s d v) e u=updO (updO s e u) d v:=by
 cases d with
 | none=>rfl
 | some d=>
   cases e with
   | none=>rfl
   | some e=>
     funext k
     have hne:d≠e:=λhe=>h d rfl (by rw [he])
     simp only [updO,upd]
     by_cases h1:k=d
     · subst h1; simp [hne]
     · simp [h1]
theorem updO_out {s:Nat→AV} {d:Option Nat} {v:AV} {k:Nat}(h:d≠some k):updO s d v k=s k:=by
 cases d with
 | none=>rfl
 | some d=>
   have:k≠d:=λe=>h (by rw [e])
   simp [updO,upd,this]
theorem clean_put {b:Nat} {d:Option Nat} {r:Res} {σ:St}(hn:newOK d r)(hc:cleanN d r σ)(hb:Clean b σ)(hm:noMen b r):Clean b (σ.put d r):=by
 rw [put_clean hn hc]
 obtain ⟨h1,h2,h3,h4⟩:=hm
 refine ⟨?_,?_⟩
 · cases d with
   | none=>exact hb.s
   | some d=>
     funext k
     have:=congrFun hb.s k
     simp only [killS,updO,upd] at this ⊢
     by_cases hk:k=d
     · simp [hk,h1]
     · simp [hk,this]
 · show killM b (updL σ.m (newU d r)) =updL σ.m (newU d r)
   rw [killM_updL,hb.m]
   congr 1
   unfold newU
   rw [List.map_append,h2]
   congr 1
   cases hN:r.new with
   | none=>cases d<;>rfl
   | some k=>
     rw [hN] at h4
     cases d with
     | none=>rfl
     | some d=>simp [h4]
def passP (o:RO)(σ:St):Prop:=o.guard=none∨∃ g b,o.guard=some (g,b)∧σ.s g= .bool b
def evR (Φ:Nat→Option Ctr)(o:RO)(σ:St)(r:Res):Prop:=
 evG Φ o σ=some r∨
 (passP o σ∧(evOp Φ o.op (o.dst.getD 0) [] σ=some r∨∃ k x y q v,o.op= .pick (.t k) x y∧σ.s k= .bool q∧av σ [] (bif q then x else y) =some v∧r= ⟨[],[],v,[],none,[]⟩))∨
 (∃ g b,o.guard=some (g,b)∧σ.s g= .bool (!b)∧r= ⟨[],[],.junk,[],none,[]⟩)
theorem evR_agr {Φ:Nat→Option Ctr} {σ σ':St} {o:RO} {r:Res}(h:evR Φ o σ r)(hs:∀ k∈o.reads,σ'.s k=σ.s k)(hp:∀ k∈pslots r.val,σ'.s k=σ.s k)(hm:∀ b∈r.tch,σ'.m b=σ.m b)(hu:∀ b∈r.ups.map (·.1),σ'.m b=σ.m b):evR Φ o σ' r:=by
 have hg:∀ g b,o.guard=some (g,b)→σ'.s g=σ.s g:=λg b e=>hs g (by simp [RO.reads,e])
 have ho:∀ k∈o.op.reads,σ'.s k=σ.s k:=λk hk=>hs k (by unfold RO.reads; exact List.mem_append_right _ hk)
 rcases h with h | ⟨hpass,h⟩ | ⟨g,b,h1,h2,h3⟩
 · exact .inl (evG_agr h hs hp hm hu)
 · refine .inr (.inl ⟨?_,?_⟩)
   · rcases hpass with h1 | ⟨g,b,h1,h2⟩
     · exact .inl h1
     · exact .inr ⟨g,b,h1,by rw [hg g b h1]; exact h2⟩
   · rcases h with h | ⟨k,x,y,q,v,h1,h2,h3,h4⟩
     · exact .inl (evOp_agr h ho hm)
     · rw [h1] at ho
       simp only [IOp.reads,slotsA,List.mem_append] at ho
       refine .inr ⟨k,x,y,q,v,h1,by rw [ho k (.inl (by simp))]; exact h2,?_,h4⟩
       rw [av_agr]
       · exact h3
       · intro j hj
         cases q with
         | true=>exact ho j (.inr (.inl hj))
         | false=>exact ho j (.inr (.inr hj))
 · exact .inr (.inr ⟨g,b,h1,by rw [hg g b h1]; exact h2,h3⟩)
def EvL (Φ:Nat→Option Ctr):List (Nat×RO×Res)→St→(St→Prop)→Prop
 | [],σ,K=>K σ
 | (n,o,r)::T,σ,K=>evR Φ o σ r∧(∀ q∈r.pre,q)∧newOK o.dst r∧(∀ t∈T,pairOK n o.dst r t.2.1.after t.2.1.dst t.2.2)∧EvL Φ T (σ.put o.dst r) K
def cleanAll (T:List (Nat×RO×Res))(σ:St):Prop:=∀ t∈T,cleanN t.2.1.dst t.2.2 σ
theorem newMen_of {d:Option Nat} {r r1:Res}(h:newMen d r r1) {σ:St} {d1:Option Nat}(hn:newOK d1 r1)(hc:cleanN d1 r1 σ)(hb:cleanN d r σ):cleanN d r (σ.put d1 r1):=by
 unfold newMen at h
 unfold cleanN at hb ⊢
 cases hN:r.new with
 | none=>trivial
 | some b=>
   cases d with
   | none=>trivial
   | some d=>
     simp only [hN] at h hb
     exact clean_put hn hc hb h
theorem disjN_iff {l l':List Nat}(h:disjN l l'=true):∀ x∈l,x∉l':=by
 intro x hx hx'
 simp only [disjN,List.all_eq_true] at h
 have:=h x hx
 simp [hx'] at this
theorem apartO_spec {x y:RO}(h:apartO x y=true):(∀ d,x.dst=some d→d∉y.reads)∧(∀ d,y.dst=some d→d∉x.reads):=by
 simp only [apartO,Bool.and_eq_true] at h
 refine ⟨λd hd=>?_,λd hd=>?_⟩
 · have:=h.1; rw [hd] at this; simpa using this
 · have:=h.2; rw [hd] at this; simpa using this
theorem EvL_front {Φ:Nat→Option Ctr} {n:Nat} {o:RO} {r:Res} {B:List (Nat×RO×Res)} {K:St→Prop}:∀ (A:List (Nat×RO×Res))(σ:St),EvL Φ (A ++ (n,o,r)::B) σ K→cleanAll (A ++ (n,o,r)::B) σ→
 (∀ t∈A,o.after.contains t.1=false∧apartO t.2.1 o=true∧∀ k,t.2.1.dst=some k→o.dst≠some k)→
 evR Φ o σ r∧(∀ q∈r.pre,q)∧newOK o.dst r∧EvL Φ (A ++ B) (σ.put o.dst r) K∧cleanAll (A ++ B) (σ.put o.dst r)
 | [],σ,h,hc,_=>by
   simp only [List.nil_append,EvL] at h ⊢
   obtain ⟨h1,h2,h3,h4,h5⟩:=h
   refine ⟨h1,h2,h3,h5,λt ht=>?_⟩
   exact newMen_of (h4 t ht).1 h3 (hc (n,o,r) (by simp)) (hc t (by simp [ht]))
 | (m, o1, r1) ::A,σ,h,hc,hA=>by
   simp only [List.cons_append,EvL] at h
   obtain ⟨h1,h2,h3,h4,h5⟩:=h
   have hc1:cleanN o1.dst r1 σ:=hc (m,o1,r1) (by simp)
   have hco:cleanN o.dst r σ:=hc (n,o,r) (by simp)
   have hcs:cleanAll (A ++ (n,o,r)::B) (σ.put o1.dst r1):=λt ht=>newMen_of (h4 t ht).1 h3 hc1 (hc t (by simp only [List.cons_append,List.mem_cons]; exact .inr ht))
   obtain ⟨g1,g2,g3,g4,g5⟩:=EvL_front A _ h5 hcs (λt ht=>hA t (List.mem_cons_of_mem _ ht))
   obtain ⟨a1,a2,a3⟩:=hA (m,o1,r1) (by simp)
   simp only at a1 a2 a3
   have hp:=h4 (n,o,r) (by simp)
   unfold pairOK at hp
   simp only [a1] at hp
   obtain ⟨p1,p2,p3⟩:=hp
   simp only [chkR,Bool.and_eq_true] at p2
   obtain ⟨⟨⟨c1,c2⟩,c3⟩,c4⟩:=p2
   have c1:=disjN_iff c1
   have c2:=disjN_iff c2
   have c3:=disjN_iff c3
   have c4:=disjN_iff c4
   obtain ⟨s1,s2⟩:=apartO_spec a2
   have hput1:=put_clean h3 hc1
   have e1:evR Φ o σ r:=by
    refine evR_agr g1 ?_ ?_ ?_ ?_
    · intro k hk
      rw [hput1]
      exact (updO_out (λe=>s1 k e hk)).symm
    · intro k hk
      rw [hput1]
      exact (updO_out (λe=>c1 k hk (by simp [optN,e]))).symm
    · intro b hb
      rw [hput1]
      refine (updL_out ?_).symm
      rw [newU_ids]
      exact λhi=>c3 b hi (by simp [hb])
    · intro b hb
      rw [hput1]
      refine (updL_out ?_).symm
      rw [newU_ids]
      exact λhi=>c3 b hi (by simp only [List.mem_append]; exact .inr (by unfold idsR; exact List.mem_append_left _ hb))
   have hput:=put_clean g3 hco
   have e2:evR Φ o1 (σ.put o.dst r) r1:=by
    refine evR_agr h1 ?_ ?_ ?_ ?_
    · intro k hk
      rw [hput]
      exact updO_out (λe=>s2 k e hk)
    · intro k hk
      rw [hput]
      exact updO_out (λe=>c2 k hk (by simp [optN,e]))
    · intro b hb
      rw [hput]
      refine updL_out ?_
      rw [newU_ids]
      exact λhi=>c4 b hi hb
    · intro b hb
      rw [hput]
      refine updL_out ?_
      rw [newU_ids]
      exact λhi=>c3 b (by unfold idsR; exact List.mem_append_left _ hb) (by simp [hi])
   have hc1':cleanN o1.dst r1 (σ.put o.dst r):=newMen_of p3 g3 hco hc1
   have hco':cleanN o.dst r (σ.put o1.dst r1):=hcs (n,o,r) (by simp)
   have e3:(σ.put o1.dst r1).put o.dst r=(σ.put o.dst r).put o1.dst r1:=by
    rw [put_clean g3 hco',put_clean h3 hc1',hput1,hput]
    simp only [St.mk.injEq]
    refine ⟨updO_comm a3,updL_comm ?_⟩
    rw [newU_ids,newU_ids]
    exact λk hk hk'=>c3 k hk (by simp [hk'])
   refine ⟨e1,g2,g3,?_,?_⟩
   · simp only [List.cons_append,EvL]
     refine ⟨e2,h2,h3,λt ht=>h4 t ?_,?_⟩
     · rcases List.mem_append.1 ht with ht | ht
       · exact List.mem_append_left _ ht
       · exact List.mem_append_right _ (List.mem_cons_of_mem _ ht)
     · rw [← e3]; exact g4
   · intro t ht
     simp only [List.cons_append,List.mem_cons] at ht
     rcases ht with rfl | ht
     · exact hc1'
     · rcases List.mem_append.1 ht with ht' | ht'
       · have hpt:newMen t.2.1.dst t.2.2 r:=by
          have :∀ (A:List (Nat×RO×Res)) (σ:St),EvL Φ (A ++ (n,o,r)::B) σ K→(∀ t∈A,o.after.contains t.1=false)→∀ t∈A,newMen t.2.1.dst t.2.2 r:=by
           intro A
           induction A with
           | nil=>intro _ _ _ t ht; cases ht
           | cons x A ih=>
             intro σ hE hA t ht
             simp only [List.cons_append,EvL] at hE
             obtain ⟨_,_,_,q4,q5⟩:=hE
             rcases List.mem_cons.1 ht with rfl | ht
             · have hq:=q4 (n,o,r) (by simp)
               unfold pairOK at hq
               simp only [hA t (by simp)] at hq
               exact hq.2.2
             · exact ih _ q5 (λt ht=>hA t (List.mem_cons_of_mem _ ht)) t ht
          exact this A _ h5 (λt ht=>(hA t (List.mem_cons_of_mem _ ht)).1) t ht'
         exact newMen_of hpt g3 hco (hc t (by simp [ht']))
       · have hpt:newMen t.2.1.dst t.2.2 r:=by
          have:∀ (A:List (Nat×RO×Res)) (σ:St),EvL Φ (A ++ (n,o,r)::B) σ K→∀ t∈B,newMen t.2.1.dst t.2.2 r:=by
           intro A
           induction A with
           | nil=>
             intro σ hE t ht
             simp only [List.nil_append,EvL] at hE
             exact (hE.2.2.2.1 t ht).1
           | cons x A ih=>
             intro σ hE t ht
             simp only [List.cons_append,EvL] at hE
             exact ih _ hE.2.2.2.2 t ht
          exact this A _ h5 t ht'
         exact newMen_of hpt g3 hco (hc t (by simp [ht']))
theorem pairD_mem:∀ {D:List (Nat×Option Nat×Res)} {af:List Nat} {d:Option Nat} {r:Res} {K:Prop},pairD D af d r K→(∀ x∈D,pairOK x.1 x.2.1 x.2.2 af d r)∧K
 | [],_,_,_,_,h=>⟨by simp,h⟩
 | (m,d1,r1)::D,_,_,_,_,h=>by
   obtain ⟨h1,h2⟩:=h
   obtain ⟨h3,h4⟩:=pairD_mem h2
   exact ⟨λx hx=>by rcases List.mem_cons.1 hx with rfl | hx; exact h1; exact h3 x hx,h4⟩
theorem knowD_mem:∀ {D:List (Nat×Option Nat×Res)} {K:Prop},knowD D K→(∀ x∈D,∀ q∈x.2.2.post,q)→K
 | [],_,h,_=>h
 | (m,d1,r1)::D,_,h,hq=>knowD_mem (knowL_mem h (hq (m,d1,r1) (by simp))) (λx hx=>hq x (List.mem_cons_of_mem _ hx))
theorem evD_EvL {Φ:Nat→Option Ctr} {K:St→Prop}:∀ (l:List RO)(n:Nat)(D:List (Nat×Option Nat×Res))(σ:St),evD Φ l n D σ K→
 ∃ T:List (Nat×RO×Res),T.map (·.2.1) =l∧(∀ i t,T[i]? =some t→t.1=n+i)∧
   (∀ t∈T,∀ x∈D,pairOK x.1 x.2.1 x.2.2 t.2.1.after t.2.1.dst t.2.2)∧
   EvL Φ T σ (λσ'=>(∀ t∈T,∀ q∈t.2.2.post,q)→(∀ x∈D,∀ q∈x.2.2.post,q)→K σ')
 | [],n,D,σ,h=>⟨[],rfl,by simp,by simp,λ_ hD=>knowD_mem h hD⟩
 | o :: l,n,D,σ,h=>by
   simp only [evD] at h
   split at h
   · exact h.elim
   · rename_i r hr
     obtain ⟨hn,h⟩:=h
     obtain ⟨hpre,h⟩:=askL_mem h
     obtain ⟨hpair,h⟩:=pairD_mem h
     obtain ⟨T,h1,h2,h3,h4⟩:=evD_EvL l (n+1) _ _ h
     refine ⟨(n,o,r)::T,by simp [h1],?_,?_,?_⟩
     · intro i t hi
       cases i with
       | zero=>simp at hi; subst hi; rfl
       | succ i=>have:=h2 i t (by simpa using hi); omega
     · intro t ht x hx
       rcases List.mem_cons.1 ht with rfl | ht
       · exact hpair x hx
       · exact h3 t ht x (List.mem_cons_of_mem _ hx)
     · simp only [EvL]
       refine ⟨.inl hr,hpre,hn,λt ht=>h3 t ht (n,o.dst,r) (by simp),?_⟩
       have mono:∀ (T:List (Nat×RO×Res)) (σ:St) (K K':St→Prop),(∀ σ,K σ→K' σ)→EvL Φ T σ K→EvL Φ T σ K':=by
        intro T
        induction T with
        | nil=>intro σ K K' hk h; exact hk σ h
        | cons x T ih=>
          intro σ K K' hk h
          simp only [EvL] at h ⊢
          exact ⟨h.1,h.2.1,h.2.2.1,h.2.2.2.1,ih _ _ _ hk h.2.2.2.2⟩
       refine mono T _ _ _ (λσ' hk hT hD=>hk (λt ht=>hT t (List.mem_cons_of_mem _ ht)) ?_) h4
       intro x hx
       rcases List.mem_cons.1 hx with rfl | hx
       · exact hT (n,o,r) (by simp)
       · exact hD x hx
theorem evDS1_some {Φ:Nat→Option Ctr} {o:RO} {n:Nat} {D:DL} {σ:St} {K:DL→St→Prop}(h:evDS1 Φ o n D σ K):
 ∃ r,evR Φ o σ r∧newOK o.dst r∧(∀ q∈r.pre,q)∧(∀ x∈D,pairOK x.1 x.2.1 x.2.2 o.after o.dst r)∧K ((n,o.dst,r)::D) (σ.put o.dst r):=by
 have same:∀ (k:Nat) (x:AV),σ.s k=x→(⟨upd σ.s k x,σ.m⟩:St) =σ:=by
  intro k x hx
  have:upd σ.s k x=σ.s:=by
   funext j
   simp only [upd]
   split
   · rename_i e; rw [e,hx]
   · rfl
  rw [this]
 obtain ⟨d,op,g,af⟩:=o
 have step:∀ (x:Option Res),stepDS d af n D σ K x→∃ r,x=some r∧newOK d r∧(∀ q∈r.pre,q)∧(∀ x∈D,pairOK x.1 x.2.1 x.2.2 af d r)∧K ((n,d,r)::D) (σ.put d r):=by
  intro x hx
  cases x with
  | none=>exact hx.elim
  | some r=>
    obtain ⟨hn,hx⟩:=hx
    obtain ⟨hpre,hx⟩:=askL_mem hx
    obtain ⟨hpair,hx⟩:=pairD_mem hx
    exact ⟨r,rfl,hn,hpre,hpair,hx⟩
 have pass:passP ⟨d,op,g,af⟩ σ→passDS Φ d op af n D σ K (pickOf op)→∃ r,evR Φ ⟨d,op,g,af⟩ σ r∧newOK d r∧(∀ q∈r.pre,q)∧(∀ x∈D,pairOK x.1 x.2.1 x.2.2 af d r)∧K ((n,d,r)::D) (σ.put d r):=by
  intro hp h
  cases hop:pickOf op with
  | none=>
    rw [hop] at h
    obtain ⟨r,h1,h2⟩:=step _ h
    exact ⟨r,.inr (.inl ⟨hp,.inl h1⟩),h2⟩
  | some q=>
    obtain ⟨c,x,y⟩:=q
    have hio:op= .pick c x y:=by cases op<;>simp [pickOf] at hop; obtain ⟨rfl,rfl,rfl⟩:=hop; rfl
    rw [hop] at h
    simp only [passDS] at h
    unfold pickDS at h
    split at h<;>try (exact h.elim)
    rename_i b hb
    cases c with
    | c v=>exact h.elim
    | t k =>
      obtain ⟨hx,hy⟩:=h
      have hk:σ.s k= .bool b:=hb
      cases b with
      | true=>
        have h:=hx rfl
        rw [same k _ hk] at h
        obtain ⟨r,h1,h2⟩:=step _ h
        cases hv:av σ [] x with
        | none=>rw [hv] at h1; cases h1
        | some v=>
          rw [hv] at h1
          exact ⟨r,.inr (.inl ⟨hp,.inr ⟨k,x,y,true,v,hio,hk,hv,(Option.some.inj h1).symm⟩⟩),h2⟩
      | false=>
        have h:=hy rfl
        rw [same k _ hk] at h
        obtain ⟨r,h1,h2⟩:=step _ h
        cases hv:av σ [] y with
        | none=>rw [hv] at h1; cases h1
        | some v=>
          rw [hv] at h1
          exact ⟨r,.inr (.inl ⟨hp,.inr ⟨k,x,y,false,v,hio,hk,hv,(Option.some.inj h1).symm⟩⟩),h2⟩
 cases g with
 | none=>exact pass (.inl rfl) h
 | some gb=>
   obtain ⟨g,b⟩:=gb
   simp only [evDS1] at h
   unfold guardDS at h
   split at h<;>try (exact h.elim)
   rename_i c hc
   obtain ⟨hy,hn⟩:=h
   by_cases hcb:c=b
   · subst hcb
     have h:=hy rfl
     rw [same g _ hc] at h
     exact pass (.inr ⟨g,c,rfl,hc⟩) h
   · have hc':c=(!b):=by cases c<;>cases b<;>simp_all
     have h:=hn hc'
     rw [hc'] at hc
     rw [same g _ hc] at h
     obtain ⟨r,h1,h2⟩:=step _ h
     exact ⟨r,.inr (.inr ⟨g,b,rfl,hc,(Option.some.inj h1).symm⟩),h2⟩
theorem evDS_EvL {Φ:Nat→Option Ctr} {K:St→Prop}:∀ (l:List RO)(n:Nat)(D:List (Nat×Option Nat×Res))(σ:St),evDS Φ l n D σ K→
 ∃ T:List (Nat×RO×Res),T.map (·.2.1) =l∧(∀ i t,T[i]? =some t→t.1=n+i)∧
   (∀ t∈T,∀ x∈D,pairOK x.1 x.2.1 x.2.2 t.2.1.after t.2.1.dst t.2.2)∧
   EvL Φ T σ (λσ'=>(∀ t∈T,∀ q∈t.2.2.post,q)→(∀ x∈D,∀ q∈x.2.2.post,q)→K σ')
 | [],n,D,σ,h=>⟨[],rfl,by simp,by simp,λ_ hD=>knowD_mem h hD⟩
 | o :: l,n,D,σ,h=>by
   simp only [evDS] at h
   obtain ⟨r,hr,hn,hpre,hpair,h⟩:=evDS1_some h
   obtain ⟨T,h1,h2,h3,h4⟩:=evDS_EvL l (n+1) _ _ h
   refine ⟨(n,o,r)::T,by simp [h1],?_,?_,?_⟩
   · intro i t hi
     cases i with
     | zero=>simp at hi; subst hi; rfl
     | succ i=>have:=h2 i t (by simpa using hi); omega
   · intro t ht x hx
     rcases List.mem_cons.1 ht with rfl | ht
     · exact hpair x hx
     · exact h3 t ht x (List.mem_cons_of_mem _ hx)
   · simp only [EvL]
     refine ⟨hr,hpre,hn,λt ht=>h3 t ht (n,o.dst,r) (by simp),?_⟩
     have mono:∀ (T:List (Nat×RO×Res)) (σ:St) (K K':St→Prop),(∀ σ,K σ→K' σ)→EvL Φ T σ K→EvL Φ T σ K':=by
      intro T
      induction T with
      | nil=>intro σ K K' hk h; exact hk σ h
      | cons x T ih=>
        intro σ K K' hk h
        simp only [EvL] at h ⊢
        exact ⟨h.1,h.2.1,h.2.2.1,h.2.2.2.1,ih _ _ _ hk h.2.2.2.2⟩
     refine mono T _ _ _ (λσ' hk hT hD=>hk (λt ht=>hT t (List.mem_cons_of_mem _ ht)) ?_) h4
     intro x hx
     rcases List.mem_cons.1 hx with rfl | hx
     · exact hT (n,o,r) (by simp)
     · exact hD x hx
theorem Zi0:∀ (l:List RO)(acc:List (List Nat))(i:Nat),(∃ af,(closeGo l acc)[i]? =(l[i]?).map λo=>{o with after:=af})
 | [],acc,i=>⟨[],by simp [closeGo]⟩
 | o::l,acc,0=>⟨unionN acc o.after (addN o.after []),by simp [closeGo]⟩
 | o::l,acc,i+1=>by
   obtain ⟨af,h⟩:=Zi0 l (acc ++ [unionN acc o.after (addN o.after [])]) i
   exact ⟨af,by simpa [closeGo] using h⟩
theorem Zh0:∀ (l:List RO)(acc:List (List Nat)),(closeGo l acc).length=l.length
 | [],acc=>rfl
 | o::l,acc=>by simp [closeGo,Zh0 l]
end Go.Ev
namespace Go.Ev
open Go Go.RowKit
structure BufL (Z':Nat→Prop)(w:World)(θ:Nat→Value)(r:Nat)(z:List AV)(es:List (List AV)):Prop where
 lst:Rep Z' w θ (.lst z es) (θ r)
 part:∀ lo hi v,Rep Z' w θ (.sv r z.length lo hi) v→Rep Z' w θ (.lst z ((es.drop lo).take (hi - lo))) v
section
variable {X:Cx} {N:Nat} {G:Prop} {W:List Nat} {Z Z':Nat→Prop} {w w':World} {θ θ':Nat→Value} {m:Nat→Option Blk} {σ:St}
theorem Mem.bufL (hm:Mem X Z w θ m) {r T:Nat} {z:List AV} {es:List (List AV)}(hr:m r=some (.buf T z es))(hz:∀ b,Z b→Z' b)(hb:∀ b,bk (θ r) =some b→Z' b):BufL Z' w θ r z es:=
 ⟨buf_lst hm hr hz hb θ,λlo hi v h=>part_lst hm hr hz hb θ (by
  cases h with
  | sv _ _ _ _ _ a n c a' c' hθ e1 e2 e3 e4 e5=>exact .sv _ _ _ _ _ a n c _ _ hθ e1 e2 e3 e4 e5)⟩
variable {r:Nat} {z:List AV} {es:List (List AV)}(hL:BufL Z' w θ r z es)
include hL
theorem Rep.frz0 {x:AV} {v:Value}(h:Rep Z' w θ x v):Rep Z' w θ (Ev.frz0 r z es x) v:=by
 cases x with
 | vw r' a b c=>
   simp only [Ev.frz0]
   split
   · rename_i e; subst e
     cases h with
     | vw _ _ _ _ _ a' n' c' hθ=>rw [← hθ]; exact hL.lst
   · exact h
 | sv r' sz lo hi=>
   simp only [Ev.frz0]
   split
   · rename_i e; subst e
     split
     · rename_i e; subst e; exact hL.part _ _ _ h
     · exact .junk _ _
   · exact h
 | _=>exact h
omit hL in
theorem frz0_atom {x:AV}(h:x.atom=true):(Ev.frz0 r z es x).atom=true:=by
 cases x<;>simp only [Ev.frz0]<;>(try split)<;>(try split)<;>first | rfl | exact h
omit hL in
theorem frz0_lev1 {x:AV}(h:x.lev1=true):(Ev.frz1 r z es x).lev1=true:=by
 cases x<;>simp only [Ev.frz1,Ev.frz0]<;>(try split)<;>(try split)<;>first | rfl | exact h
theorem Cells.frz {cs:List AV} {vs:List Value}(h:Cells Z' w θ cs vs):Cells Z' w θ (cs.map (Ev.frz0 r z es)) vs:=by
 refine ⟨by simpa using h.len,?_,h.one,?_⟩
 · intro c hc
   obtain ⟨c',hc',rfl⟩:=List.mem_map.1 hc
   exact frz0_atom (h.at1 c' hc')
 · intro i c v hc hv
   rw [List.getElem?_map] at hc
   obtain ⟨c',hc',rfl⟩:=Option.map_eq_some_iff.1 hc
   exact Rep.frz0 hL (h.rep i c' v hc' hv)
theorem Rep.frz1 {x:AV} {v:Value}(h:Rep Z' w θ x v):Rep Z' w θ (Ev.frz1 r z es x) v:=by
 cases x with
 | agg cs=>
   obtain ⟨vs,rfl,hc⟩:=h.cells
   exact (hc.frz hL).agg
 | _=>exact h.frz0 hL
theorem Rep.frz2 {x:AV} {v:Value}(h:Rep Z' w θ x v):Rep Z' w θ (Ev.frz2 r z es x) v:=by
 cases x with
 | tup cs=>
   cases h with
   | tup _ _ vs hl ha h=>
     refine .tup θ _ vs (by simpa using hl) ?_ ?_
     · intro c hc
       obtain ⟨c',hc',rfl⟩:=List.mem_map.1 hc
       exact frz0_lev1 (ha c' hc')
     · intro i c v hc hv
       rw [List.getElem?_map] at hc
       obtain ⟨c',hc',rfl⟩:=Option.map_eq_some_iff.1 hc
       exact (h i c' v hc' hv).frz1 hL
 | _=>exact h.frz1 hL
theorem SRep.frz {tm:Array Value} {x:AV} {v:Value}(h:SRep Z' w θ tm x v):SRep Z' w θ tm (Ev.frz3 r z es x) v:=by
 cases x with
 | gd q y=>exact ⟨λhp=>(h.1 hp).frz2 hL,h.2⟩
 | _=>exact .of_rep (Rep.frz2 hL h)
omit hL in
theorem frz3_gd {x:AV} {q:List (Nat×Bool)} {y:AV}(h:Ev.frz3 r z es x= .gd q y):∃ y',x= .gd q y':=by
 cases x with
 | gd q' y'=>simp only [Ev.frz3] at h; cases h; exact ⟨y',rfl⟩
 | tup vs=>simp only [Ev.frz3,Ev.frz2] at h; cases h
 | agg cs=>simp only [Ev.frz3,Ev.frz2,Ev.frz1] at h; cases h
 | vw r' a b c=>simp only [Ev.frz3,Ev.frz2,Ev.frz1,Ev.frz0] at h; split at h<;>cases h
 | sv r' a b c=>
   simp only [Ev.frz3,Ev.frz2,Ev.frz1,Ev.frz0] at h
   split at h
   · split at h<;>cases h
   · cases h
 | _=>cases h
omit hL in
theorem boolOf_frz3 {x:AV} {c:Bool}(h:boolOf x=some c):boolOf (Ev.frz3 r z es x) =some c:=by
 unfold boolOf at h
 split at h
 · exact h
 · exact h
 · cases h
theorem Inv.frzW {tm:Array Value} {m':Nat→Option Blk}(inv:Inv X N G Z w θ W σ tm)(hz:∀ b,Z b→Z' b)(hm:Mem X Z' w θ m'):Inv X N G Z' w θ W ⟨frzSl r z es σ.s,m'⟩ tm:=by
 refine ⟨λk=>?_,hm,?_,?_,inv.size⟩
 · exact SRep.frz hL ((inv.slot k).goes (Goes.wider w hz) (λ_=>rfl) (λ_ _ _=>Iff.rfl))
 · intro k q y hk e he
   obtain ⟨y',hk'⟩:=frz3_gd hk
   obtain ⟨h1,c,h2⟩:=inv.path k q y' hk' e he
   exact ⟨h1,c,boolOf_frz3 h2⟩
 · rcases inv.nog with h | h
   · exact .inl h
   · right
     intro k q y hk
     obtain ⟨y',hk'⟩:=frz3_gd hk
     exact h k q y' hk'
end
section
variable {X:Cx} {N:Nat} {G:Prop} {W:List Nat} {Z Z':Nat→Prop} {w w':World} {θ θ':Nat→Value} {m:Nat→Option Blk} {σ:St}
theorem Mem.frz (hm:Mem X Z w θ m) {r T:Nat}(hr64:64≤r) {z:List AV} {es:List (List AV)}(hr:m r=some (.buf T z es)):Mem X (λb=>Z b∨bk (θ r) =some b) w θ (updM (frzM r z es m) r none):=by
 have hL:BufL (λb=>Z b∨bk (θ r) =some b) w θ r z es:=hm.bufL hr (λ_ h=> .inl h) (λ_ h=> .inr h)
 have some_of:∀ k,(updM (frzM r z es m) r none k).isSome=true→k≠r∧(m k).isSome=true:=by
  intro k hk
  simp only [updM,frzM] at hk
  split at hk
  · cases hk
  · rename_i hne
    refine ⟨hne,?_⟩
    cases hmk:m k with
    | none=>rw [hmk] at hk; cases hk
    | some _=>rfl
 have notZ:∀ k b,k≠r→(m k).isSome=true→bk (θ k) =some b→¬ bk (θ r) =some b:=λk b hne hk hb hb'=>hne (hm.disj k r b hk (by rw [hr]; rfl) hb hb')
 refine ⟨?_,?_,?_,?_,hm.frame,λb hb=> .inl (hm.zin b hb),?_,hm.fix,⟨.inl hm.glb.1,hm.glb.2⟩⟩
 · intro k blk hk
   have hs:=some_of k (by rw [hk]; rfl)
   simp only [updM,hs.1,if_false,frzM] at hk
   cases hmk:m k with
   | none=>rw [hmk] at hk; cases hk
   | some b0=>
     rw [hmk] at hk
     simp only [sI] at hk; subst hk
     have hb:=hm.brep k b0 hmk
     cases b0 with
     | dead=>exact hb.elim
     | clo f z' es' i off=>
       obtain ⟨v,h1,h2⟩:=hb
       exact ⟨v,h1,h2.step (Goes.wider w (λ_ h=> .inl h))⟩
     | ms n ks=>
       obtain ⟨b,E,clock,h1,h2,h3,h4⟩:=hb
       refine ⟨b,E,clock,h1,h2,?_,h4⟩
       rintro (h | h)
       · exact h3 h
       · exact notZ k b hs.1 hs.2 (by rw [h1]; rfl) h
     | qb T' z' es'=>
       obtain ⟨h0,h1,xs,h2,h3,h4⟩:=hb
       refine ⟨h0,h1,xs,h2,?_,h4.step (Goes.wider w (λ_ h=> .inl h))⟩
       rintro b hb (h | h)
       · exact h3 b hb h
       · exact notZ k b hs.1 hs.2 hb h
     | cells cs=>
       obtain ⟨b,T',vs,h1,h2,h3,h4⟩:=hb
       refine ⟨b,T',vs,h1,h2,?_,(h4.step (Goes.wider w (λ_ h=> .inl h))).frz hL⟩
       rintro (h | h)
       · exact h3 h
       · exact notZ k b hs.1 hs.2 (by rw [h1]; rfl) h
     | buf T' z' es'=>
       obtain ⟨h0,h1,xs,h2,h3,h4⟩:=hb
       refine ⟨h0,h1,xs,h2,?_,h4.step (Goes.wider w (λ_ h=> .inl h))⟩
       rintro b hb (h | h)
       · exact h3 b hb h
       · exact notZ k b hs.1 hs.2 hb h
 · intro k k' b h1 h2 h3 h4
   exact hm.disj k k' b (some_of k h1).2 (some_of k' h2).2 h3 h4
 · intro k b h1 h2; exact hm.own k b (some_of k h1).2 h2
 · rintro b (h | h)
   · exact hm.zlt b h
   · exact hm.lt hr h
 · rintro b (h | h)
   · exact hm.znew b h
   · rcases hm.own r b (by rw [hr]; rfl) h with h | h
     · exact .inr h
     · omega
theorem Inv.frz {tm:Array Value}(inv:Inv X N G Z w θ W σ tm) {r T:Nat}(hr64:64≤r) {z:List AV} {es:List (List AV)}(hr:σ.m r=some (.buf T z es)):Inv X N G (λb=>Z b∨bk (θ r) =some b) w θ W (frzS r σ) tm:=by
 have:frzS r σ= ⟨frzSl r z es σ.s,updM (frzM r z es σ.m) r none⟩:=by
  simp only [frzS,frzQ,hr,decide_eq_true hr64]
 rw [this]
 exact inv.frzW (inv.mem.bufL hr (λ_ h=> .inl h) (λ_ h=> .inr h)) (λ_ h=> .inl h) (inv.mem.frz hr64 hr)
theorem frzS_no {r:Nat}(h:∀ T z es,σ.m r≠some (.buf T z es)):frzS r σ=σ:=by
 unfold frzS frzQ
 split
 · rename_i hh; exact absurd hh (h _ _ _)
 · rfl
theorem frzS_m {r k:Nat}(hk:k≠r) {T:Nat} {z:List AV} {es:List (List AV)}(h:σ.m k=some (.buf T z es)):(frzS r σ).m k=some (.buf T z es):=by
 unfold frzS frzQ
 split
 · split
   · simp only [updM,hk,if_false,frzM,h,frzB]
   · exact h
 · exact h
theorem frzS_c {r k:Nat}(hk:k≠r) {cs:List AV}(h:σ.m k=some (.cells cs)):∃ cs',(frzS r σ).m k=some (.cells cs'):=by
 unfold frzS frzQ
 split
 · split
   · exact ⟨_,by simp only [updM,hk,if_false,frzM,h,frzB]; rfl⟩
   · exact ⟨_,h⟩
 · exact ⟨_,h⟩
theorem Inv.frzL {tm:Array Value}:∀ (bs:List Nat) {Z:Nat→Prop} {σ:St},Inv X N G Z w θ W σ tm→(∀ r∈bs,64≤r)→(∀ r∈bs,(∃ T z es,σ.m r=some (.buf T z es))∨((∀ T z es,σ.m r≠some (.buf T z es))∧∀ b,bk (θ r) =some b→Z b))→
 Inv X N G (lentZ θ bs Z) w θ W (frzL bs σ) tm
 | [],Z,σ,inv,_,_=>by
   have:lentZ θ [] Z=Z:=funext λb=>propext (by simp [lentZ])
   rw [this]; exact inv
 | r :: bs, Z,σ,inv,h64,hl=>by
   have h1:Inv X N G (λb=>Z b∨bk (θ r) =some b) w θ W (frzS r σ) tm:=by
    rcases hl r (by simp) with ⟨T,z,es,h⟩ | ⟨h,hb⟩
    · exact inv.frz (h64 r (by simp)) h
    · rw [frzS_no h]
      have:(λb=>Z b∨bk (θ r) =some b) =Z:=funext λb=>propext ⟨λh=>h.elim id (hb b),.inl⟩
      rw [this]; exact inv
   have h2 := Inv.frzL bs h1 (λk hk=>h64 k (by simp [hk])) (λk hk=>by
    by_cases e:k=r
    · subst e
      refine .inr ⟨?_,λb hb=> .inr hb⟩
      intro T z es hh
      rcases hl k (by simp) with ⟨T',z',es',h⟩ | ⟨h,_⟩
      · simp only [frzS,frzQ,h,decide_eq_true (h64 k (by simp)),updM,if_true] at hh
        cases hh
      · rw [frzS_no h] at hh; exact h _ _ _ hh
    · rcases hl k (by simp [hk]) with ⟨T',z',es',h⟩ | ⟨h,hb⟩
      · exact .inl ⟨_,_,_,frzS_m e h⟩
      · refine .inr ⟨?_,λb hb'=> .inl (hb b hb')⟩
        intro T z es hh
        unfold frzS frzQ at hh
        split at hh
        · split at hh
          · simp only [updM,e,if_false,frzM] at hh
            cases hmk:σ.m k with
            | none=>rw [hmk] at hh; cases hh
            | some b0=>
              rw [hmk] at hh
              simp only [sI] at hh
              cases b0 with
              | cells cs=>cases hh
              | dead=>cases hh
              | qb _ _ _=>cases hh
              | ms _ _=>cases hh
              | clo _ _ _ _ _=>cases hh
              | buf t' z' es'=>exact h _ _ _ hmk
          · exact h _ _ _ hh
        · exact h _ _ _ hh)
   have :lentZ θ (r::bs) Z=lentZ θ bs (λb=>Z b∨bk (θ r) =some b):=funext λb=>propext (by
    unfold lentZ
    constructor
    · rintro (h | ⟨k,hk,hb⟩)
      · exact .inl (.inl h)
      · rcases List.mem_cons.1 hk with rfl | hk
        · exact .inl (.inr hb)
        · exact .inr ⟨k,hk,hb⟩
    · rintro ((h | h) | ⟨k,hk,hb⟩)
      · exact .inl h
      · exact .inr ⟨r,by simp,h⟩
      · exact .inr ⟨k,by simp [hk],hb⟩)
   rw [this]; exact h2
theorem Inv.frzAny {tm:Array Value}(r:Nat)(inv:Inv X N G Z w θ W σ tm):∃ Z',(∀ b,Z b→Z' b)∧Inv X N G Z' w θ W (frzS r σ) tm:=by
 cases hr:σ.m r with
 | none=>exact ⟨Z,λ_ h=>h,by rw [frzS_no (λT z es e=>by rw [hr] at e; cases e)]; exact inv⟩
 | some b=>
   cases b with
   | dead=>exact ⟨Z,λ_ h=>h,by rw [frzS_no (λT z es e=>by rw [hr] at e; cases e)]; exact inv⟩
   | qb _ _ _=>exact ⟨Z,λ_ h=>h,by rw [frzS_no (λT z es e=>by rw [hr] at e; cases e)]; exact inv⟩
   | ms _ _=>exact ⟨Z,λ_ h=>h,by rw [frzS_no (λT z es e=>by rw [hr] at e; cases e)]; exact inv⟩
   | clo _ _ _ _ _=>exact ⟨Z,λ_ h=>h,by rw [frzS_no (λT z es e=>by rw [hr] at e; cases e)]; exact inv⟩
   | cells cs=>exact ⟨Z,λ_ h=>h,by rw [frzS_no (λT z es e=>by rw [hr] at e; cases e)]; exact inv⟩
   | buf T z es=>
     by_cases h64:64≤r
     · exact ⟨_,λ_ h=> .inl h,inv.frz h64 hr⟩
     · refine ⟨Z,λ_ h=>h,?_⟩
       have:frzS r σ=σ:=by simp only [frzS,frzQ,hr,decide_eq_false h64]
       rw [this]; exact inv
theorem Inv.frzLAny {tm:Array Value}:∀ (bs:List Nat) {Z:Nat→Prop} {σ:St},Inv X N G Z w θ W σ tm→∃ Z',(∀ b,Z b→Z' b)∧Inv X N G Z' w θ W (Ev.frzL bs σ) tm
 | [],Z,σ,inv=>⟨Z,λ_ h=>h,inv⟩
 | r::bs,Z,σ,inv=>by
   obtain ⟨Z1,h1,inv1⟩:=inv.frzAny r
   obtain ⟨Z2,h2,inv2⟩:=Inv.frzLAny bs inv1
   exact ⟨Z2,λb hb=>h2 b (h1 b hb),inv2⟩
end
end Go.Ev
namespace Go.Ev
open Go Go.RowKit
def BInv (X:Cx)(N:Nat)(σ:St)(a:Act)(w:World):Prop:=
 ∃ Z θ,(∀ k,Rep Z w θ (σ.s k) (a.tmps.getD k undef))∧Mem X Z w θ σ.m∧a.tmps.size=N∧a.defers= []
section
variable {X:Cx} {N:Nat} {σ:St} {a:Act} {w:World}
theorem BInv.inv (h:BInv X N σ a w)(G:Prop):∃ Z θ,Inv X N G Z w θ [] σ a.tmps∧a.defers= []:=by
 obtain ⟨Z,θ,hs,hm,hsz,hd⟩:=h
 exact ⟨Z,θ,⟨λk=> .of_rep (hs k),hm,λk q y h=>absurd h (Qt0 (hs k) q y),.inr λk q y=>Qt0 (hs k) q y,hsz⟩,hd⟩
theorem Inv.binv {Z:Nat→Prop} {θ:Nat→Value} {W:List Nat}(h:Inv X N False Z w θ W σ a.tmps)(hd:a.defers= []):BInv X N σ a w:=
 ⟨Z,θ,λk=>(h.slot k).rep (h.nog.resolve_left id k),h.mem,h.size,hd⟩
theorem frz_binv (r:Nat)(h:BInv X N σ a w):BInv X N (frzS r σ) a w:=by
 obtain ⟨Z,θ,inv,hd⟩:=h.inv False
 obtain ⟨Z',_,inv'⟩:=inv.frzAny r
 exact inv'.binv hd
theorem ren0_rep {Z:Nat→Prop} {θ:Nat→Value} {k R:Nat}(hθ:θ R=θ k) {x:AV} {v:Value}(h:Rep Z w θ x v):Rep Z w θ (ren0 k R x) v:=by
 cases x with
 | vw r a b c=>
   simp only [ren0]
   split
   · rename_i e; subst e
     cases h with
     | vw _ _ _ _ _ a' n' c' h'=>exact .vw _ _ _ _ _ _ _ _ (hθ.trans h')
   · exact h
 | ptr r o=>
   simp only [ren0]
   split
   · rename_i e; subst e
     cases h with
     | ptr _ _ _ b h'=>exact .ptr _ _ _ _ (hθ.trans h')
   · exact h
 | _=>exact h
theorem ren0_atom {k R:Nat} {x:AV}(h:x.atom=true):(ren0 k R x).atom=true:=by
 cases x<;>simp only [ren0]<;>(try split)<;>first | rfl | exact h
theorem ren1_lev1 {k R:Nat} {x:AV}(h:x.lev1=true):(ren1 k R x).lev1=true:=by
 cases x<;>simp only [ren1,ren0]<;>(try split)<;>first | rfl | exact h
theorem Cells.ren {Z:Nat→Prop} {θ:Nat→Value} {k R:Nat}(hθ:θ R=θ k) {cs:List AV} {vs:List Value}(h:Cells Z w θ cs vs):Cells Z w θ (cs.map (ren0 k R)) vs:=by
 refine ⟨by simpa using h.len,?_,h.one,?_⟩
 · intro c hc
   obtain ⟨c',hc',rfl⟩:=List.mem_map.1 hc
   exact ren0_atom (h.at1 c' hc')
 · intro i c v hc hv
   rw [List.getElem?_map] at hc
   obtain ⟨c',hc',rfl⟩:=Option.map_eq_some_iff.1 hc
   exact ren0_rep hθ (h.rep i c' v hc' hv)
theorem ren1_rep {Z:Nat→Prop} {θ:Nat→Value} {k R:Nat}(hθ:θ R=θ k) {x:AV} {v:Value}(h:Rep Z w θ x v):Rep Z w θ (ren1 k R x) v:=by
 cases x with
 | agg cs=>
   obtain ⟨vs,rfl,hc⟩:=h.cells
   exact (hc.ren hθ).agg
 | _=>exact ren0_rep hθ h
theorem ren2_rep {Z:Nat→Prop} {θ:Nat→Value} {k R:Nat}(hθ:θ R=θ k) {x:AV} {v:Value}(h:Rep Z w θ x v):Rep Z w θ (ren2 k R x) v:=by
 cases x with
 | tup cs=>
   cases h with
   | tup _ _ vs hl ha h=>
     refine .tup θ _ vs (by simpa using hl) ?_ ?_
     · intro c hc
       obtain ⟨c',hc',rfl⟩:=List.mem_map.1 hc
       exact ren1_lev1 (ha c' hc')
     · intro i c v hc hv
       rw [List.getElem?_map] at hc
       obtain ⟨c',hc',rfl⟩:=Option.map_eq_some_iff.1 hc
       exact ren1_rep hθ (h i c' v hc' hv)
 | _=>exact ren1_rep hθ h
theorem ren3_rep {Z:Nat→Prop} {θ:Nat→Value} {k R:Nat}(hθ:θ R=θ k) {x:AV} {v:Value}(h:Rep Z w θ x v):Rep Z w θ (ren3 k R x) v:=by
 cases x with
 | gd q y=>cases h
 | _=>exact ren2_rep hθ h
theorem kill3_rep {Z:Nat→Prop} {θ θ':Nat→Value} {r:Nat}(ht:∀ k,k≠r→θ' k=θ k) {x:AV} {v:Value}(h:Rep Z w θ x v):Rep Z w θ' (kill3 r x) v:=by
 cases x with
 | gd q y=>cases h
 | _=>exact Rep.kill2 h r ht
theorem Mem.drop {Z:Nat→Prop} {θ:Nat→Value} {m:Nat→Option Blk}(hm:Mem X Z w θ m)(k:Nat):Mem X Z w θ (updM m k none):=by
 refine hm.swap (λr hr=>?_) (λr blk hr=>?_)
 · simp only [updM] at hr
   split at hr
   · cases hr
   · exact hr
 · simp only [updM] at hr
   split at hr
   · cases hr
   · exact hm.brep r blk hr
theorem ren_binv (k R:Nat)(h:BInv X N σ a w):BInv X N (renS k R σ) a w:=by
 unfold renS renQ
 split
 · rename_i t z es hk
   split
   · rename_i hc
     simp only [Bool.and_eq_true,decide_eq_true_eq,Bool.not_eq_true',beq_eq_false_iff_ne,ne_eq] at hc
     obtain ⟨h64,h64k,hne⟩:=hc
     obtain ⟨Z,θ,hs,hm,hsz,hd⟩:=h
     have ht:∀ i,i≠R→(λi=>if i=R then θ k else θ i) i=θ i:=λi hi=>by simp [hi]
     have hθ:(λi=>if i=R then θ k else θ i) R=(λi=>if i=R then θ k else θ i) k:=by simp [hne]
     obtain ⟨hz0,hrows,xs,hown,hnz,hcs⟩:=hm.brep k _ hk
     have h1:=(hm.drop k).put1 R (θ k) (.buf t z es) h64 (by
      exact ⟨hz0,hrows,xs,by simpa using hown,by simpa using hnz,hcs⟩) (by
      intro r' blk' _ hr' b hb hb'
      simp only [updM] at hr'
      split at hr'
      · cases hr'
      · rename_i hne'
        exact hne' (hm.disj r' k b (by rw [hr']; rfl) (by rw [hk]; rfl) hb' hb)) (by
      intro b hb
      rcases hm.own k b (by rw [hk]; rfl) hb with h | h
      · exact h
      · omega)
     refine ⟨Z,λi=>if i=R then θ k else θ i,λi=>ren3_rep hθ (kill3_rep ht (hs i)),?_,hsz,hd⟩
     refine h1.swap (λr hr=>?_) (λr blk hr=>?_)
     · simp only [updM] at hr ⊢
       split at hr
       · rename_i e; subst e; simp
       · rename_i e
         split at hr
         · cases hr
         · rename_i e'
           simp only [e,if_false,killM]
           have e2:updM σ.m k none r=σ.m r:=by simp [updM,e']
           rw [e2]
           simp only [renM] at hr
           cases hmr:σ.m r with
           | none=>rw [hmr] at hr; cases hr
           | some b0=>rfl
     · simp only [updM] at hr
       split at hr
       · rename_i e; subst e
         simp only [sI] at hr; subst hr
         exact h1.brep _ _ (by simp [updM,killB])
       · rename_i e
         split at hr
         · cases hr
         · rename_i e'
           simp only [renM] at hr
           cases hmr:σ.m r with
           | none=>rw [hmr] at hr; cases hr
           | some b0=>
             rw [hmr] at hr
             simp only [sI] at hr; subst hr
             have e2:updM σ.m k none r=some b0:=by simp [updM,e',hmr]
             have:=h1.brep r (killB R b0) (by simp only [updM,e,if_false,killM]; rw [show (if r=k then none else σ.m r) =some b0 from e2])
             cases b0 with
             | cells cs=>
               obtain ⟨b,T,vs,e1,e2,e3,e4⟩:=this
               exact ⟨b,T,vs,e1,e2,e3,e4.ren hθ⟩
             | buf t' z' es'=>exact this
             | qb t' z' es'=>exact this
             | ms n ks=>exact this
             | clo f z' es' i off=>exact this
             | dead=>exact this.elim
   · exact h
 · rename_i cs hk
   split
   · rename_i hc
     simp only [Bool.and_eq_true,decide_eq_true_eq,Bool.not_eq_true',beq_eq_false_iff_ne,ne_eq] at hc
     obtain ⟨h64,h64k,hne⟩:=hc
     obtain ⟨Z,θ,hs,hm,hsz,hd⟩:=h
     have ht:∀ i,i≠R→(λi=>if i=R then θ k else θ i) i=θ i:=λi hi=>by simp [hi]
     have hθ:(λi=>if i=R then θ k else θ i) R=(λi=>if i=R then θ k else θ i) k:=by simp [hne]
     obtain ⟨b1,T1,vs1,q1,q2,q3,q4⟩:=hm.brep k _ hk
     have h1:=(hm.drop k).put1 R (θ k) (.cells cs) h64 (by
      exact ⟨b1,T1,vs1,by simpa using q1,q2,q3,q4.kill R ht⟩) (by
      intro r' blk' _ hr' b hb hb'
      simp only [updM] at hr'
      split at hr'
      · cases hr'
      · rename_i hne'
        exact hne' (hm.disj r' k b (by rw [hr']; rfl) (by rw [hk]; rfl) hb' hb)) (by
      intro b hb
      rcases hm.own k b (by rw [hk]; rfl) hb with h | h
      · exact h
      · omega)
     refine ⟨Z,λi=>if i=R then θ k else θ i,λi=>ren3_rep hθ (kill3_rep ht (hs i)),?_,hsz,hd⟩
     refine h1.swap (λr hr=>?_) (λr blk hr=>?_)
     · simp only [updM] at hr ⊢
       split at hr
       · rename_i e; subst e; simp
       · rename_i e
         split at hr
         · cases hr
         · rename_i e'
           simp only [e,if_false,killM]
           have e2:updM σ.m k none r=σ.m r:=by simp [updM,e']
           rw [e2]
           simp only [renM] at hr
           cases hmr:σ.m r with
           | none=>rw [hmr] at hr; cases hr
           | some b0=>rfl
     · simp only [updM] at hr
       split at hr
       · rename_i e; subst e
         simp only [sI] at hr; subst hr
         obtain ⟨b2,T2,vs2,r1,r2,r3,r4⟩:=h1.brep r (killB r (.cells cs)) (by simp [updM])
         exact ⟨b2,T2,vs2,r1,r2,r3,r4.ren hθ⟩
       · rename_i e
         split at hr
         · cases hr
         · rename_i e'
           simp only [renM] at hr
           cases hmr:σ.m r with
           | none=>rw [hmr] at hr; cases hr
           | some b0=>
             rw [hmr] at hr
             simp only [sI] at hr; subst hr
             have e2:updM σ.m k none r=some b0:=by simp [updM,e',hmr]
             have:=h1.brep r (killB R b0) (by simp only [updM,e,if_false,killM]; rw [show (if r=k then none else σ.m r) =some b0 from e2])
             cases b0 with
             | cells cs=>
               obtain ⟨b,T,vs,e1,e2,e3,e4⟩:=this
               exact ⟨b,T,vs,e1,e2,e3,e4.ren hθ⟩
             | buf t' z' es'=>exact this
             | qb t' z' es'=>exact this
             | ms n ks=>exact this
             | clo f z' es' i off=>exact this
             | dead=>exact this.elim
   · exact h
 · exact h
theorem Mem.begin {Z:Nat→Prop} {θ:Nat→Value} {m:Nat→Option Blk}(hm:Mem X Z w θ m) {R T:Nat}(h64:64≤R) {z:List AV}(hz:0 < z.length):
 Mem X Z w (λi=>if i=R then .slice none 0 0 else θ i) (updM (killM R m) R (some (.buf T z []))):=by
 have:=hm.put1 R (.slice none 0 0) (.buf T z []) h64 (by
  refine ⟨λe=>by rw [e] at hz; simp at hz,by simp,[],?_,?_,Cells.nil _ _ _⟩
  · simp only [if_true]
    exact World.ownsRow_nil w 0 T z.length
  · intro b hb
    simp [bk] at hb) (by
  intro r' blk' _ _ b hb
  simp [bk] at hb) (by
  intro b hb
  simp [bk] at hb)
 simpa only [killB] using this
theorem nls_binv (d R T:Nat)(z:List AV)(h:BInv X N σ a w):BInv X N (nlS d R T z σ) a w:=by
 unfold nlS nlV
 split
 · rename_i hd0
   split
   · rename_i hc
     simp only [Bool.and_eq_true,decide_eq_true_eq] at hc
     obtain ⟨h64,hz⟩:=hc
     obtain ⟨Z,θ,hs,hm,hsz,hd⟩:=h
     have ht:∀ i,i≠R→(λi=>if i=R then (.slice none 0 0:Value) else θ i) i=θ i:=λi hi=>by simp [hi]
     refine ⟨Z,_,λk=>?_,hm.begin h64 hz,hsz,hd⟩
     simp only [upd]
     split
     · rename_i e; subst e
       have:=hs k
       rw [hd0] at this
       generalize a.tmps.getD k undef=v at this
       cases this
       exact .vw _ _ _ _ _ _ _ _ (by simp)
     · exact kill3_rep ht (hs k)
   · exact h
 · exact h
theorem nlc_binv (r i R T:Nat)(z:List AV)(h:BInv X N σ a w):BInv X N (nlC r i R T z σ) a w:=by
 unfold nlC nlC1
 split
 · rename_i cs hcs
   unfold nlC2
   split
   · rename_i hcell
     split
     · rename_i hc
       simp only [Bool.and_eq_true,decide_eq_true_eq,Bool.not_eq_true',beq_eq_false_iff_ne,ne_eq] at hc
       obtain ⟨h64,hz,hne⟩:=hc
       obtain ⟨Z,θ,hs,hm,hsz,hd⟩:=h
       have ht:∀ i,i≠R→(λi=>if i=R then (.slice none 0 0:Value) else θ i) i=θ i:=λi hi=>by simp [hi]
       have h1:=hm.begin (T:=T) h64 hz
       refine ⟨Z,_,λk=>kill3_rep ht (hs k),?_,hsz,hd⟩
       refine h1.swap (λk hk=>?_) (λk blk hk=>?_)
       · simp only [updM] at hk ⊢
         split at hk
         · rename_i e; simp [e]
         · rename_i e
           simp only [e,if_false]
           split at hk
           · rename_i e'; subst e'; simp [killM,hcs]
           · exact hk
       · simp only [updM] at hk
         split at hk
         · rename_i e; subst e
           simp only [sI] at hk; subst hk
           exact h1.brep _ _ (by simp [updM])
         · rename_i e
           split at hk
           · rename_i e'; subst e'
             simp only [sI] at hk; subst hk
             obtain ⟨b,T',vs,e1,e2,e3,e4⟩:=h1.brep k (.cells (cs.map (kill0 R))) (by simp [updM,e,killM,hcs,killB])
             refine ⟨b,T',vs,e1,e2,e3,?_⟩
             refine ⟨by simpa using e4.len,?_,e4.one,?_⟩
             · intro c hc
               rcases List.mem_or_eq_of_mem_set hc with h | h
               · exact e4.at1 c h
               · subst h; rfl
             · intro j c v hc hv
               rw [List.getElem?_set] at hc
               split at hc
               · rename_i ej; subst ej
                 split at hc<;>try (cases hc; done)
                 simp only [sI] at hc; subst hc
                 have:=e4.rep i .nil v (by simp [hcell,kill0]) hv
                 cases this
                 exact .vw _ _ _ _ _ _ _ _ (by simp)
               · exact e4.rep j c v hc hv
           · exact h1.brep k blk (by simp only [updM,e,if_false]; exact hk)
     · exact h
   · exact h
 · exact h
theorem applyK_binv (l:Lk)(h:BInv X N σ a w):BInv X N (applyK l σ) a w:=by
 cases l with
 | frz k=>exact frz_binv k h
 | ren k R=>exact ren_binv k R h
 | nls d R T z=>exact nls_binv d R T z h
 | nlc r i R T z=>exact nlc_binv r i R T z h
theorem Za0:∀ (ls:List Lk) {σ:St},BInv X N σ a w→BInv X N (applyL ls σ) a w
 | [],_,h=>h
 | l::ls,_,h=>Za0 ls (applyK_binv l h)
theorem leA_rep {Z:Nat→Prop} {w:World} {θ:Nat→Value} {x y:AV} {v:Value}(h:leA x y)(hr:Rep Z w θ x v):Rep Z w θ y v:=by
 unfold leA at h
 split at h
 · subst h
   cases hr with
   | nil _=>exact rep_empty _ _ _ _ _ (by unfold maxLen; omega)
 · subst h; exact hr
theorem Zu0 {Z:Nat→Prop} {w:World} {θ:Nat→Value}:∀ {xs ys:List AV} {vs:List Value},leAs xs ys→Cells Z w θ xs vs→Cells Z w θ ys vs
 | [],[],vs,_,h=>h
 | [],_ ::_,vs,h,_=>h.elim
 | _ ::_,[],vs,h,_=>h.elim
 | x ::xs,y::ys,vs,h,hc=>by
   cases vs with
   | nil=>have:=hc.len; simp at this
   | cons u us=>
     have hrest:Cells Z w θ xs us:=by have:=hc.drop 1; simpa using this
     have hat:y.atom=true:=by
      have hx:=hc.at1 x (by simp)
      have:=h.1
      unfold leA at this
      split at this
      · rfl
      · rw [← this]; exact hx
     exact Cells.append (Cells.one' (leA_rep h.1 (hc.rep 0 x u rfl rfl)) hat (hc.one u (by simp))) (Zu0 h.2 hrest)
theorem leV1_rep {Z:Nat→Prop} {w:World} {θ:Nat→Value} {x y:AV} {v:Value}(h:leV1 x y)(hr:Rep Z w θ x v):Rep Z w θ y v:=by
 unfold leV1 at h
 split at h
 · obtain ⟨vs,rfl,hc⟩:=hr.cells
   exact (Zu0 h hc).agg
 · exact leA_rep h hr
theorem leL_rep {Z:Nat→Prop} {w:World} {θ:Nat→Value} {s:Nat→AV} {tm:Array Value}(hs:∀ k,Rep Z w θ (s k) (tm.getD k undef)):∀ {l:List (Nat×AV)},leL s l→∀ k,Rep Z w θ (lookL l k) (tm.getD k undef)
 | [],_,k=> .junk _ _
 | (d,v)::l,h,k=>by
   simp only [lookL,upd]
   split
   · rename_i hk; subst hk; exact leV1_rep h.1 (hs k)
   · exact leL_rep hs h.2 k
theorem leB_rep {Z:Nat→Prop} {w:World} {θ:Nat→Value} {r:Nat} {x y:Blk}(h:leB (some x) y)(hr:BRep Z w θ r x):BRep Z w θ r y:=by
 unfold leB at h
 split at h
 · rename_i cs ds e
   simp only [sI] at e; subst e
   obtain ⟨b,T,vs,h1,h2,h3,h4⟩:=hr
   exact ⟨b,T,vs,h1,h2,h3,Zu0 h h4⟩
 · rename_i t z es t' z' es' e
   simp only [sI] at e; subst e
   obtain ⟨rfl,rfl,rfl⟩:=h
   exact hr
 · rename_i t z es t' z' es' e
   simp only [sI] at e; subst e
   obtain ⟨rfl,rfl,rfl⟩:=h
   obtain ⟨h1,h2,xs,h3,h4,h5⟩:=hr
   exact ⟨h1,h2,xs,.of_own h3,h4,h5⟩
 · rename_i t z es t' z' es' e
   simp only [sI] at e; subst e
   obtain ⟨rfl,rfl,rfl⟩:=h
   exact hr
 · rename_i e
   simp only [sI] at e; subst e
   obtain ⟨rfl,rfl⟩:=h
   exact hr
 · rename_i e
   simp only [sI] at e; subst e
   obtain ⟨rfl,rfl,rfl,rfl,rfl⟩:=h
   exact hr
 · exact h.elim
theorem leM_look {m:Nat→Option Blk}:∀ {l:List (Nat×Blk)},leM m l→∀ r b,lookM l r=some b→∃ b0,m r=some b0∧leB (some b0) b
 | [],_,r,b,h=>by simp [lookM] at h
 | (k,c)::l,hl,r,b,h=>by
   simp only [lookM,updM] at h
   split at h
   · rename_i hk; subst hk
     simp only [sI] at h; subst h
     have h1:=hl.1
     cases hm:m r with
     | none=>rw [hm] at h1; unfold leB at h1; exact absurd h1 (by split<;>simp_all)
     | some b0=>exact ⟨b0,rfl,by rw [← hm]; exact h1⟩
   · exact leM_look hl.2 r b h
theorem ge0_inv {S:SL} {σ:St} {a:Act} {w:World}(h:S.ge0 σ)(hb:BInv X N σ a w):BInv X N S.st a w:=by
 obtain ⟨Z,θ,hs,hm,hsz,hd⟩:=hb
 refine ⟨Z,θ,leL_rep hs h.1,?_,hsz,hd⟩
 refine hm.swap (λr hr=>?_) (λr blk hr=>?_)
 · obtain ⟨b,hb⟩:=Option.isSome_iff_exists.1 hr
   obtain ⟨b0,h0,_⟩:=leM_look h.2 r b hb
   rw [h0]; rfl
 · obtain ⟨b0,h0,h1⟩:=leM_look h.2 r blk hr
   exact leB_rep h1 (hm.brep r b0 h0)
theorem ge_inv {S:SL} {σ:St} {a:Act} {w:World}(h:S.ge σ)(hb:BInv X N σ a w):BInv X N S.st a w:=ge0_inv h (Za0 _ (Za0 _ hb))
end
end Go.Ev
namespace Go.Ev
open Go Go.RowKit
theorem kill0_clean {r:Nat} {x:AV}(h:x.clean0=true):kill0 r x=x:=by
 cases x<;>first | rfl | simp [AV.clean0] at h
theorem killB_clean {r:Nat} {cs:List AV}(h:cs.all AV.clean0=true):killB r (.cells cs) = .cells cs:=by
 simp only [killB]
 congr 1
 have:cs.map (kill0 r) =cs.map id:=List.map_congr_left λc hc=>kill0_clean (List.all_eq_true.1 h c hc)
 rw [this,List.map_id]
def cleanBlk:Blk→Prop
 | .cells cs=>cs.all AV.clean0=true
 | .buf _ _ _=>True
 | .qb _ _ _=>True
 | .ms _ _=>True
 | .clo _ _ _ _ _=>True
 | .dead=>True
theorem killB_cleanBlk {r:Nat} {b:Blk}(h:cleanBlk b):killB r b=b:=by
 cases b with
 | cells cs=>exact killB_clean h
 | buf t z es=>rfl
 | qb t z es=>rfl
 | ms n ks=>rfl
 | clo f z es i off=>rfl
 | dead=>rfl
theorem frs0_clean {x:AV}(h:wfX0 x=true):∀ e∈frs0 x,cleanBlk e.2:=by
 intro e he
 cases x<;>simp only [frs0] at he<;>try (cases he; done)
 · simp only [List.mem_singleton] at he; subst he; trivial
 · simp only [List.mem_singleton] at he; subst he; exact h
theorem frsL_clean:∀ {xs:List AV},xs.all wfX0=true→∀ e∈frsL xs,cleanBlk e.2
 | [],_,e,he=>by cases he
 | x::xs,h,e,he=>by
   simp only [List.all_cons,Bool.and_eq_true] at h
   simp only [frsL,List.mem_append] at he
   exact he.elim (frs0_clean h.1 e) (frsL_clean h.2 e)
theorem frs1_clean {x:AV}(h:wfX1 x=true):∀ e∈frs1 x,cleanBlk e.2:=by
 cases x with
 | agg cs=>exact frsL_clean (by simpa only [wfX1] using h)
 | _=>exact frs0_clean (by simpa only [wfX1] using h)
theorem frsV_clean:∀ {xs:List AV},xs.all wfX1=true→∀ e∈frsV xs,cleanBlk e.2
 | [],_,e,he=>by cases he
 | x::xs,h,e,he=>by
   simp only [List.all_cons,Bool.and_eq_true] at h
   simp only [frsV,List.mem_append] at he
   exact he.elim (frs1_clean h.1 e) (frsV_clean h.2 e)
theorem frs2_clean {x:AV}(h:wfX2 x=true):∀ e∈frs2 x,cleanBlk e.2:=by
 cases x with
 | tup cs=>exact frsV_clean (by simpa only [wfX2] using h)
 | _=>exact frs1_clean (by simpa only [wfX2] using h)
section
variable {X:Cx} {N:Nat} {G:Prop} {W:List Nat} {Z Z':Nat→Prop} {w w':World} {θ θ':Nat→Value} {σ:St}
theorem Inv.killed {tm:Array Value}(inv:Inv X N G Z w θ W σ tm)(r:Nat)(ht:∀ k,k≠r→θ' k=θ k) {m':Nat→Option Blk}(hm:Mem X Z w θ' m'):Inv X N G Z w θ' W ⟨killS r σ.s,m'⟩ tm:=by
 refine ⟨λk=>?_,hm,?_,?_,inv.size⟩
 · exact (inv.slot k).kill (.refl Z w) r ht (λ_ _ _=>Iff.rfl)
 · intro k q y hk e he
   obtain ⟨y',hk'⟩:=kill3_gd hk
   obtain ⟨h1,c,h2⟩:=inv.path k q y' hk' e he
   exact ⟨h1,c,boolOf_kill3 h2⟩
 · rcases inv.nog with h | h
   · exact .inl h
   · right
     intro k q y hk
     obtain ⟨y',hk'⟩:=kill3_gd hk
     exact h k q y' hk'
theorem BRep.to {θR:Nat→Value} {j i:Nat} {b:Blk}(hb:BRep Z w θR j b)(hc:cleanBlk b)(h:θ' i=θR j):BRep Z w θ' i b:=by
 cases b with
 | dead=>exact hb.elim
 | cells cs=>
   obtain ⟨b,T,vs,e1,e2,e3,e4⟩:=hb
   exact ⟨b,T,vs,by rw [h]; exact e1,e2,e3,e4.th_clean hc θ'⟩
 | buf t z es=>
   obtain ⟨e1,e2,xs,e3,e4,e5⟩:=hb
   exact ⟨e1,e2,xs,by rw [h]; exact e3,by rw [h]; exact e4,e5⟩
 | qb t z es=>
   obtain ⟨e1,e2,xs,e3,e4,e5⟩:=hb
   exact ⟨e1,e2,xs,by rw [h]; exact e3,by rw [h]; exact e4,e5⟩
 | ms n ks=>
   obtain ⟨b,E,clock,e1,e2,e3,e4⟩:=hb
   exact ⟨b,E,clock,by rw [h]; exact e1,e2,e3,e4⟩
 | clo f z es i off=>
   obtain ⟨v,e1,e2⟩:=hb
   exact ⟨v,by rw [h]; exact e1,e2⟩
theorem Inv.addF {tm:Array Value}(d:Nat) {θR:Nat→Value} {n:Nat}(hn:X.w0.heap.size≤n):∀ (l:List (Nat×Blk)) {θ:Nat→Value} {σ:St},Inv X N G Z w θ W σ tm→
 (∀ e∈l,BRep Z w θR e.1 e.2∧cleanBlk e.2∧e.1 < 64)→(∀ e∈l,∀ b,bk (θR e.1) =some b→n≤b∧∀ r,(σ.m r).isSome=true→bk (θ r)≠some b)→
 (∀ e∈l,∀ e'∈l,∀ b,bk (θR e.1) =some b→bk (θR e'.1) =some b→e.1=e'.1)→nodupN (l.map (·.1)) =true→
 ∃ θ',Inv X N G Z w θ' W (Ev.addF d l σ) tm∧(∀ e∈l,θ' (64 * d+64+e.1) =θR e.1)∧∀ k,(∀ e∈l,k≠64 * d+64+e.1)→θ' k=θ k
 | [],θ,σ,inv,_,_,_,_=>⟨θ,inv,by simp,λ_ _=>rfl⟩
 | (j, b)::l,θ,σ,inv,hB,hF,hD,hN=>by
   have hb:=hB (j,b) (by simp)
   have hid:64≤64 * d+64+j:=by omega
   have ht:∀ k,k≠64 * d+64+j→(λk=>if k=64 * d+64+j then θR j else θ k) k=θ k:=λk hk=>by simp [hk]
   have hm:=inv.mem.put1 (64 * d+64+j) (θR j) b hid (by
    rw [killB_cleanBlk hb.2.1]
    exact hb.1.to hb.2.1 (by simp)) (by
    intro r' blk' _ hr' c hc
    exact (hF (j,b) (by simp) c hc).2 r' (by rw [hr']; rfl)) (by
    intro c hc
    have:=(hF (j,b) (by simp) c hc).1
    exact .inl (by omega))
   rw [killB_cleanBlk hb.2.1] at hm
   have inv1:=inv.killed (64 * d+64+j) ht hm
   simp only [List.map_cons,nodupN,Bool.and_eq_true,Bool.not_eq_true'] at hN
   have hnot:∀ e∈l,e.1≠j:=by
    intro e he h
    have:(l.map (·.1)).contains j=true:=by
     rw [List.contains_iff_mem]
     exact List.mem_map.2 ⟨e,he,h⟩
    rw [this] at hN; exact absurd hN.1 (by simp)
   obtain ⟨θ',i2,h1,h2⟩:=Inv.addF d hn l inv1 (λe he=>hB e (by simp [he])) (λe he c hc=>by
    refine ⟨(hF e (by simp [he]) c hc).1,λr hr=>?_⟩
    simp only [updM] at hr
    by_cases e':r=64 * d+64+j
    · subst e'
      simp only [if_true]
      intro hc'
      exact hnot e he (hD e (by simp [he]) (j,b) (by simp) c hc hc')
    · simp only [e',if_false] at hr ⊢
      refine (hF e (by simp [he]) c hc).2 r ?_
      simp only [killM] at hr
      cases hmr:σ.m r with
      | none=>rw [hmr] at hr; cases hr
      | some _=>rfl) (λe he e' he'=>hD e (by simp [he]) e' (by simp [he'])) hN.2
   refine ⟨θ',i2,?_,?_⟩
   · intro e he
     rcases List.mem_cons.1 he with rfl | he
     · rw [h2 _ (λe he=>by have:=hnot e he; simp only; omega)]
       simp
     · exact h1 e he
   · intro k hk
     rw [h2 k (λe he=>hk e (by simp [he]))]
     exact ht k (hk (j,b) (by simp))
theorem unfr0_rep {d:Nat} {θR:Nat→Value} {x:AV} {v:Value}(hw:wfX0 x=true)(h:Rep Z w θR (told0 x) v)(ht:∀ e∈frs0 x,θ' (64 * d+64+e.1) =θR e.1):Rep Z w θ' (unfr0 d x) v∧(unfr0 d x).atom=true:=by
 cases x<;>simp [wfX0] at hw
 case fr j t z es=>
  simp only [told0] at h
  cases h with
  | vw _ _ _ _ _ a n c hθ=>exact ⟨.vw _ _ _ _ _ _ _ _ ((ht (j,.buf t z es) (by simp [frs0])).trans hθ),rfl⟩
 case fp j cs=>
  simp only [told0] at h
  cases h with
  | ptr _ _ _ b hθ=>exact ⟨.ptr _ _ _ _ ((ht (j,.cells cs) (by simp [frs0])).trans hθ),rfl⟩
 all_goals exact ⟨h.th_clean0 rfl θ',rfl⟩
theorem unfrC_cells {d:Nat} {θR:Nat→Value}:∀ {xs:List AV} {vs:List Value},xs.all wfX0=true→Cells Z w θR (xs.map told0) vs→(∀ e∈frsL xs,θ' (64 * d+64+e.1) =θR e.1)→Cells Z w θ' (xs.map (unfr0 d)) vs
 | [],vs,_,h,_=>by
   have:=h.len
   cases vs with
   | nil=>exact .nil _ _ _
   | cons _ _=>simp at this
 | x ::xs,vs,hw,h,ht=>by
   cases vs with
   | nil=>have:=h.len; simp at this
   | cons u us=>
     simp only [List.all_cons,Bool.and_eq_true] at hw
     simp only [frsL,List.mem_append] at ht
     have hrest:Cells Z w θR (xs.map told0) us:=by have:=h.drop 1; simpa using this
     have h1:=unfr0_rep (d:=d) hw.1 (h.rep 0 _ u (by simp) rfl) (λe he=>ht e (.inl he))
     exact Cells.append (Cells.one' h1.1 h1.2 (h.one u (by simp))) (unfrC_cells hw.2 hrest λe he=>ht e (.inr he))
theorem unfr1_rep {d:Nat} {θR:Nat→Value} {x:AV} {v:Value}(hw:wfX1 x=true)(h:Rep Z w θR (told1 x) v)(ht:∀ e∈frs1 x,θ' (64 * d+64+e.1) =θR e.1):Rep Z w θ' (unfr1 d x) v∧(unfr1 d x).lev1=true:=by
 have key:wfX0 x=true→Rep Z w θR (told0 x) v→(∀ e∈frs0 x,θ' (64 * d+64+e.1) =θR e.1)→Rep Z w θ' (unfr0 d x) v∧(unfr0 d x).lev1=true:=λa b c=>by
  obtain ⟨h1,h2⟩:=unfr0_rep (d:=d) a b c
  refine ⟨h1,?_⟩
  generalize unfr0 d x=y at h2
  cases y<;>first | rfl | simp [AV.atom] at h2
 cases x with
 | agg cs=>
   simp only [told1] at h
   obtain ⟨vs,rfl,hc⟩:=h.cells
   exact ⟨(unfrC_cells hw hc ht).agg,rfl⟩
 | _=>exact key hw h ht
theorem frsV_get {xs:List AV} {i:Nat} {x:AV}(h:xs[i]? =some x):∀ e∈frs1 x,e∈frsV xs:=by
 induction xs generalizing i with
 | nil=>simp at h
 | cons y ys ih=>
   intro e he
   simp only [frsV,List.mem_append]
   cases i with
   | zero=>simp at h; subst h; exact .inl he
   | succ i=>simp at h; exact .inr (ih h e he)
theorem unfr2_rep {d:Nat} {θR:Nat→Value} {x:AV} {v:Value}(hw:wfX2 x=true)(h:Rep Z w θR (told2 x) v)(ht:∀ e∈frs2 x,θ' (64 * d+64+e.1) =θR e.1):Rep Z w θ' (unfr2 d x) v:=by
 cases x with
 | tup cs=>
   simp only [told2] at h
   simp only [wfX2,List.all_eq_true] at hw
   generalize hcs:cs.map told1=cs' at h
   cases h with
   | tup _ _ vs hl ha h=>
     subst hcs
     have key:∀ (i:Nat) (c:AV) (v:Value),cs[i]? =some c→vs[i]? =some v→Rep Z w θ' (unfr1 d c) v∧(unfr1 d c).lev1=true:=λi c v hc hv=>
      unfr1_rep (hw c (List.mem_of_getElem? hc)) (h i (told1 c) v (by rw [List.getElem?_map,hc]; rfl) hv) (λe he=>ht e (frsV_get hc e he))
     refine .tup θ' _ vs (by simpa using hl) ?_ ?_
     · intro c hc
       obtain ⟨c',hc',rfl⟩:=List.mem_map.1 hc
       obtain ⟨i,hi⟩:=List.getElem?_of_mem hc'
       have hiv:i < vs.length:=by rw [hl]; simpa using (List.getElem?_eq_some_iff.1 hi).1
       exact (key i c' _ hi (List.getElem?_eq_getElem hiv)).2
     · intro i c v hc hv
       rw [List.getElem?_map] at hc
       obtain ⟨c',hc',rfl⟩:=Option.map_eq_some_iff.1 hc
       exact (key i c' v hc' hv).1
 | _=>exact (unfr1_rep (by simpa only [wfX2] using hw) h (by simpa only [frs2] using ht)).1
theorem putX_inv {tm:Array Value}(inv:Inv X N G Z w' θ W σ tm) {d:Nat}(hdW:d∉W)(hdN:d < N) {R:AV} {v:Value} {θR:Nat→Value}(hfr:FrOK Z w w' θR (frs2 R))(hw:wfX2 R=true)(hi:idsOK (frs2 R) =true)(hrep:Rep Z w' θR (told2 R) v)
 (hlt:∀ r b,(σ.m r).isSome=true→bk (θ r) =some b→b < w.heap.size) (hX:X.w0.heap.size≤w.heap.size):∃ θ',Inv X N G Z w' θ' (d::W) (putX d R σ) (tm.setIfInBounds d v):=by
 simp only [idsOK,Bool.and_eq_true] at hi
 obtain ⟨θ',i1,h1,_⟩:=inv.addF (θR:=θR) d hX (frs2 R) (λe he=>⟨hfr.rep e.1 e.2 he,frs2_clean hw e he,by
  have:=List.all_eq_true.1 hi.2 e.1 (List.mem_map.2 ⟨e,he,rfl⟩)
  simpa using this⟩) (λe he b hb=>⟨hfr.new e.1 e.2 he b hb,λr hr hrb=>by
   have h1:=hfr.new e.1 e.2 he b hb
   have h2:=hlt r b hr hrb
   omega⟩) (λe he e' he' b hb hb'=>hfr.dis e.1 e.2 e'.1 e'.2 he he' b hb hb') hi.1
 have hv:=unfr2_rep (d:=d) hw hrep h1
 have:=Inv.put (a:=⟨tm,[]⟩) i1 hdW hdN (r:=⟨[],[],unfr2 d R,[],none,[]⟩) (v:=v) ⟨hv,.refl _ _,λ_ _=>rfl,i1.mem,by simp⟩
 exact ⟨θ',this⟩
theorem flatX0_told {x:AV} {θR:Nat→Value} {v:Value}(hx:flatX0 x=true)(h:Rep Z w θR (told0 x) v):Rep Z' w' θR (told0 x) v:=by
 cases x<;>simp [flatX0] at hx
 case fr j t z es=>
  simp only [told0] at h ⊢
  cases h with
  | vw _ _ _ _ _ a n c hθ=>exact .vw _ _ _ _ _ _ _ _ hθ
 case fp j cs=>
  simp only [told0] at h ⊢
  cases h with
  | ptr _ _ _ b hθ=>exact .ptr _ _ _ _ hθ
 all_goals exact Rep.flat0 rfl h
theorem flatX1_told {x:AV} {θR:Nat→Value} {v:Value}(hx:flatX1 x=true)(h:Rep Z w θR (told1 x) v):Rep Z' w' θR (told1 x) v:=by
 cases x with
 | agg cs=>
   simp only [told1] at h ⊢
   simp only [flatX1,List.all_eq_true] at hx
   obtain ⟨vs,rfl,hc⟩:=h.cells
   refine Cells.agg ⟨hc.len,hc.at1,hc.one,λi c v hi hv=>?_⟩
   have:=hc.rep i c v hi hv
   rw [List.getElem?_map] at hi
   obtain ⟨c',hc',rfl⟩:=Option.map_eq_some_iff.1 hi
   exact flatX0_told (hx c' (List.mem_of_getElem? hc')) this
 | _=>exact flatX0_told (by simpa only [flatX1] using hx) h
theorem flatX2_told {x:AV} {θR:Nat→Value} {v:Value}(hx:flatX2 x=true)(h:Rep Z w θR (told2 x) v):Rep Z' w' θR (told2 x) v:=by
 cases x with
 | tup cs=>
   simp only [told2] at h ⊢
   simp only [flatX2,List.all_eq_true] at hx
   generalize hcs:cs.map told1=cs' at h ⊢
   cases h with
   | tup _ _ vs hl ha h=>
     refine .tup θR _ vs hl ha λi c v hi hv=>?_
     have:=h i c v hi hv
     subst hcs
     rw [List.getElem?_map] at hi
     obtain ⟨c',hc',rfl⟩:=Option.map_eq_some_iff.1 hi
     exact flatX1_told (hx c' (List.mem_of_getElem? hc')) this
 | _=>exact flatX1_told (by simpa only [flatX2] using hx) h
theorem frs0_flat {x:AV}(h:flatX0 x=true):∀ e∈frs0 x,∀ cs,e.2= .cells cs→cs.all AV.flat0=true:=by
 intro e he cs hcs
 cases x<;>simp only [frs0] at he<;>try (cases he; done)
 · simp only [List.mem_singleton] at he; subst he; cases hcs
 · simp only [List.mem_singleton] at he; subst he; cases hcs; exact h
theorem frsL_flat:∀ {xs:List AV},xs.all flatX0=true→∀ e∈frsL xs,∀ cs,e.2= .cells cs→cs.all AV.flat0=true
 | [],_,e,he=>by cases he
 | x::xs,h,e,he=>by
   simp only [List.all_cons,Bool.and_eq_true] at h
   simp only [frsL,List.mem_append] at he
   exact he.elim (frs0_flat h.1 e) (frsL_flat h.2 e)
theorem frs1_flat {x:AV}(h:flatX1 x=true):∀ e∈frs1 x,∀ cs,e.2= .cells cs→cs.all AV.flat0=true:=by
 cases x with
 | agg cs=>exact frsL_flat (by simpa only [flatX1] using h)
 | _=>exact frs0_flat (by simpa only [flatX1] using h)
theorem frsV_flat:∀ {xs:List AV},xs.all flatX1=true→∀ e∈frsV xs,∀ cs,e.2= .cells cs→cs.all AV.flat0=true
 | [],_,e,he=>by cases he
 | x::xs,h,e,he=>by
   simp only [List.all_cons,Bool.and_eq_true] at h
   simp only [frsV,List.mem_append] at he
   exact he.elim (frs1_flat h.1 e) (frsV_flat h.2 e)
theorem frs2_flat {x:AV}(h:flatX2 x=true):∀ e∈frs2 x,∀ cs,e.2= .cells cs→cs.all AV.flat0=true:=by
 cases x with
 | tup cs=>exact frsV_flat (by simpa only [flatX2] using h)
 | _=>exact frs1_flat (by simpa only [flatX2] using h)
theorem flatL_mem:∀ {l:List (Nat×Blk)},flatL l→∀ e∈l,∀ t z es,e.2= .buf t z es→FlatE es
 | [],_,e,he=>by cases he
 | (j,.buf t z es)::l,h,e,he=>by
   simp only [flatL] at h
   rcases List.mem_cons.1 he with rfl | he
   · intro t' z' es' h'; cases h'; exact h.1
   · exact flatL_mem h.2 e he
 | (j,.cells cs)::l,h,e,he=>by
   simp only [flatL] at h
   rcases List.mem_cons.1 he with rfl | he
   · intro t' z' es' h'; cases h'
   · exact flatL_mem h e he
 | (j,.qb _ _ _)::l,h,e,he=>h.elim
 | (j,.clo _ _ _ _ _)::l,h,e,he=>h.elim
 | (j,.ms _ _)::l,h,e,he=>by
   simp only [flatL] at h
   rcases List.mem_cons.1 he with rfl | he
   · intro t' z' es' h'; cases h'
   · exact flatL_mem h e he
 | (j,.dead)::l,h,e,he=>by
   simp only [flatL] at h
   rcases List.mem_cons.1 he with rfl | he
   · intro t' z' es' h'; cases h'
   · exact flatL_mem h e he
theorem flatL_no:∀ {l:List (Nat×Blk)},flatL l→∀ e∈l,(∀ t z es,e.2≠ .qb t z es)∧∀ f z es i o,e.2≠ .clo f z es i o
 | [],_,e,he=>by cases he
 | (j,.qb _ _ _)::l,h,e,he=>h.elim
 | (j,.clo _ _ _ _ _)::l,h,e,he=>h.elim
 | (j,.buf t z es)::l,h,e,he=>by
   rcases List.mem_cons.1 he with rfl | he
   · exact ⟨by intros; simp,by intros; simp⟩
   · exact flatL_no h.2 e he
 | (j,.cells cs)::l,h,e,he=>by
   rcases List.mem_cons.1 he with rfl | he
   · exact ⟨by intros; simp,by intros; simp⟩
   · exact flatL_no (by simpa only [flatL] using h) e he
 | (j,.ms _ _)::l,h,e,he=>by
   rcases List.mem_cons.1 he with rfl | he
   · exact ⟨by intros; simp,by intros; simp⟩
   · exact flatL_no (by simpa only [flatL] using h) e he
 | (j,.dead)::l,h,e,he=>by
   rcases List.mem_cons.1 he with rfl | he
   · exact ⟨by intros; simp,by intros; simp⟩
   · exact flatL_no (by simpa only [flatL] using h) e he
theorem FrOK.less {w0:World} {θR:Nat→Value} {l:List (Nat×Blk)}(h:FrOK Z w0 w' θR l)(hz:∀ b,Z' b→Z b)(hc:(∀ b,Z b→Z' b)∨(flatL l∧∀ e∈l,∀ cs,e.2= .cells cs→cs.all AV.flat0=true)):FrOK Z' w0 w' θR l:=by
 refine ⟨λj blk hj=>?_,h.new,h.dis⟩
 have hb:=h.rep j blk hj
 cases blk with
 | dead=>exact hb.elim
 | ms n ks=>
   obtain ⟨b,E,clock,e1,e2,e3,e4⟩:=hb
   exact ⟨b,E,clock,e1,e2,λh=>e3 (hz b h),e4⟩
 | clo f z es i off=>
   rcases hc with hc | hc
   · obtain ⟨v,e1,e2⟩:=hb
     exact ⟨v,e1,e2.step (Goes.wider w' hc)⟩
   · exact absurd rfl ((flatL_no hc.1 _ hj).2 _ _ _ _ _)
 | qb t z es=>
   rcases hc with hc | hc
   · obtain ⟨e1,e2,xs,e3,e4,e5⟩:=hb
     exact ⟨e1,e2,xs,e3,λb hb h=>e4 b hb (hz b h),e5.step (Goes.wider w' hc)⟩
   · exact absurd rfl ((flatL_no hc.1 _ hj).1 _ _ _)
 | cells cs=>
   obtain ⟨b,T,vs,e1,e2,e3,e4⟩:=hb
   refine ⟨b,T,vs,e1,e2,λh=>e3 (hz b h),?_⟩
   rcases hc with hc | hc
   · exact e4.step (Goes.wider w' hc)
   · exact e4.flat (hc.2 _ hj cs rfl)
 | buf t z es=>
   obtain ⟨e1,e2,xs,e3,e4,e5⟩:=hb
   refine ⟨e1,e2,xs,e3,λb hb h=>e4 b hb (hz b h),?_⟩
   rcases hc with hc | hc
   · exact e5.step (Goes.wider w' hc)
   · refine e5.flat (List.all_eq_true.2 λc hcc=>?_)
     obtain ⟨e,he,hce⟩:=List.mem_flatten.1 hcc
     exact List.all_eq_true.1 (flatL_mem hc.1 _ hj t z es rfl e he) c hce
end
theorem Rep.same {Z:Nat→Prop} {w w':World}(g:∀ b o,Z b→w'.cell? ⟨b,o,none⟩ =w.cell? ⟨b,o,none⟩) {θ:Nat→Value} {x:AV} {v:Value}(h:Rep Z w θ x v):Rep Z w' θ x v:=by
 induction h with
 | int θ k n=>exact .int θ k n
 | bool θ b=>exact .bool θ b
 | str θ s=>exact .str θ s
 | agg θ cs vs hl ha h1 h ih=>exact .agg θ cs vs hl ha h1 ih
 | tup θ cs vs hl ha h ih=>exact .tup θ cs vs hl ha ih
 | lst θ z es a cap f hc hm hz hat hmem h1 h ih=>
   refine .lst θ z es a cap f hc hm hz hat (λhne=>?_) h1 ih
   obtain ⟨b,o,ha,hb,hcell⟩:=hmem hne
   exact ⟨b,o,ha,hb,λi j c hi=>(g _ _ hb).trans (hcell i j c hi)⟩
 | ep θ z es i off b o f hi hz hat hb hmem h1 h ih=>
   exact .ep θ z es i off b o f hi hz hat hb (λi j c hi=>(g _ _ hb).trans (hmem i j c hi)) h1 ih
 | ptr θ r off b h=>exact .ptr θ r off b h
 | vw θ r x y z a n c h=>exact .vw θ r x y z a n c h
 | ap θ r x y z v h h0 h1=>exact .ap θ r x y z v h h0 h1
 | bp θ r sz i off b o n c h=>exact .bp θ r sz i off b o n c h
 | sv θ r sz lo hi a n c a' c' h h1 h2 h3 h4 h5=>exact .sv θ r sz lo hi a n c a' c' h h1 h2 h3 h4 h5
 | nb θ e b h=>exact .nb θ e b h
 | fn θ f=>exact .fn θ f
 | nil θ=>exact .nil θ
 | junk θ v=>exact .junk θ v
theorem Mem.frzN {X:Cx} {Z:Nat→Prop} {w:World} {θ:Nat→Value} {m:Nat→Option Blk}(hm:Mem X Z w θ m) {r:Nat} {z:List AV} {es:List (List AV)} {g:Nat}(hg:g < w.heap.size)(hX:X.mine g)(hd:∀ k,(m k).isSome=true→bk (θ k)≠some g)
 (hL:BufL (λb=>Z b∨b=g) w θ r z es):Mem X (λb=>Z b∨b=g) w θ (frzM r z es m):=by
 have some_of:∀ k,(frzM r z es m k).isSome=true→(m k).isSome=true:=by
  intro k hk
  simp only [frzM] at hk
  cases hmk:m k with
  | none=>rw [hmk] at hk; cases hk
  | some _=>rfl
 refine ⟨?_,?_,?_,?_,hm.frame,λb hb=> .inl (hm.zin b hb),?_,hm.fix,⟨.inl hm.glb.1,hm.glb.2⟩⟩
 · intro k blk hk
   have hs:=some_of k (by rw [hk]; rfl)
   simp only [frzM] at hk
   cases hmk:m k with
   | none=>rw [hmk] at hk; cases hk
   | some b0=>
     rw [hmk] at hk
     simp only [sI] at hk; subst hk
     have hb:=hm.brep k b0 hmk
     cases b0 with
     | dead=>exact hb.elim
     | cells cs=>
       obtain ⟨b,T',vs,h1,h2,h3,h4⟩:=hb
       refine ⟨b,T',vs,h1,h2,?_,(h4.step (Goes.wider w (λ_ h=> .inl h))).frz hL⟩
       rintro (h | h)
       · exact h3 h
       · subst h; exact hd k hs (by rw [h1]; rfl)
     | clo f z' es' i off=>
       obtain ⟨v,h1,h2⟩:=hb
       exact ⟨v,h1,h2.step (Goes.wider w (λ_ h=> .inl h))⟩
     | ms n ks=>
       obtain ⟨b,E,clock,h1,h2,h3,h4⟩:=hb
       refine ⟨b,E,clock,h1,h2,?_,h4⟩
       rintro (h | h)
       · exact h3 h
       · subst h; exact hd k hs (by rw [h1]; rfl)
     | qb T' z' es'=>
       obtain ⟨h0,h1,xs,h2,h3,h4⟩:=hb
       refine ⟨h0,h1,xs,h2,?_,h4.step (Goes.wider w (λ_ h=> .inl h))⟩
       rintro b hb (h | h)
       · exact h3 b hb h
       · subst h; exact hd k hs hb
     | buf T' z' es'=>
       obtain ⟨h0,h1,xs,h2,h3,h4⟩:=hb
       refine ⟨h0,h1,xs,h2,?_,h4.step (Goes.wider w (λ_ h=> .inl h))⟩
       rintro b hb (h | h)
       · exact h3 b hb h
       · subst h; exact hd k hs hb
 · intro k k' b h1 h2 h3 h4
   exact hm.disj k k' b (some_of k h1) (some_of k' h2) h3 h4
 · intro k b h1 h2; exact hm.own k b (some_of k h1) h2
 · rintro b (h | h)
   · exact hm.zlt b h
   · subst h; exact hg
 · rintro b (h | h)
   · exact hm.znew b h
   · subst h; exact .inr hX
section
variable {P:Program} {X:Cx} {N:Nat} {G:Prop} {W:List Nat} {Z:Nat→Prop} {w:World} {θ:Nat→Value} {a:Act} {σ:St}
theorem backX_cases {bs:List Nat} {f:Bool} {fl:Prop} {σ:St} {K:St→Prop}(h:backX bs f fl σ K):(bs= []∧K σ)∨(f=true∧fl∧K σ)∨((∀ r∈bs,64≤r)∧K (frzL bs σ)):=by
 unfold backX at h
 split at h
 · exact .inl ⟨rfl,h⟩
 · split at h
   · exact .inr (.inl ⟨rfl,h⟩)
   · exact .inr (.inr ⟨λr hr=>by simpa using List.all_eq_true.1 h.1 r hr,h.2⟩)
theorem Inv.stepped {Z':Nat→Prop} {w':World} {m':Nat→Option Blk} {tm:Array Value}(inv:Inv X N G Z w θ W σ tm)(g:Goes Z w Z' w')(hm:Mem X Z' w' θ m'):Inv X N G Z' w' θ W ⟨σ.s,m'⟩ tm:=
 ⟨λk=>(inv.slot k).goes g (λ_=>rfl) (λ_ _ _=>Iff.rfl),hm,inv.path,inv.nog,inv.size⟩
theorem evX_sound {o:Oper} {f d:Nat} {st:Bool} {ι:Type} {fn:List AV→List AV→Option (Prop×(ι→Prop×AV×List AV))}(hS:Sound P f (.ext st ι fn))(inv:Inv X N G Z w θ W σ a.tmps)(hod:o.dst=some d)(hdW:d∉W)(hdN:d < N)
 {args:Array Value} (hrun:(execOp a.eval o).run P w= .ok (.enter f args) w) {vs:List AV} (hreps:Reps Z w θ vs args.toList) {K:St→Prop} (hev:evX st ι fn d vs σ K)
 {K':Act→World→Prop} {Q:Exit→Act→World→Prop} (hK:∀ v Z' w' θ' σ',K σ'→Inv X N G Z' w' θ' (d::W) σ' (a.tmps.setIfInBounds d v)→K' (a.put (some d) v) w'):o.wp P a w K' Q:=by
 have hm:=inv.mem
 have hXw:=hm.frame.size
 unfold Oper.wp
 rw [hrun,Oper.upon_enter]
 rw [hod]
 cases st with
 | false =>
   simp only [evX] at hev
   cases hl:lends σ.m vs with
   | none=>rw [hl] at hev; exact hev.elim
   | some q=>
     obtain ⟨ys,bs⟩:=q
     rw [hl] at hev
     simp only [evXA] at hev
     cases hfn:fn [] ys with
     | none=>rw [hfn] at hev; exact hev.elim
     | some q=>
       obtain ⟨q,g⟩:=q
       rw [hfn] at hev
       obtain ⟨hq,hev⟩:=hev
       have hlent:=lends_lent hl
       have hargs:args=args.toList.toArray:=by simp
       rw [hargs]
       refine (hS (lentZ θ bs Z) w ys args.toList q g (lentZ_lt hm hlent) (lentZ_glb hm bs) (lends_reps hm (λ_ h=> .inl h) hreps hl (λr hr b hb=> .inr ⟨r,hr,hb⟩)) hfn hq).mono ?_
       rintro e w' ⟨i,v,Z2,θR,hpost,rfl,hfr,hgr,hrep,hfo⟩
       obtain ⟨hwf,hbk⟩:=hev i hpost
       simp only [Bool.and_eq_true] at hwf
       have hold:∀ (r b:Nat),(σ.m r).isSome=true→bk (θ r) =some b→b < w.heap.size:=λr b hr hb=>by
        obtain ⟨blk,hblk⟩:=Option.isSome_iff_exists.1 hr
        exact hm.lt hblk hb
       have borrow:(bs= []∨(flatX2 (g i).2.1=true∧flatL (frs2 (g i).2.1)))→K (putX d (g i).2.1 σ)→K' (a.put (some d) v) w':=by
        intro hc hk
        obtain ⟨hz1,hz2⟩:=back_rep hgr
        have hst:=hm.stepW (w':=w') (m':=σ.m) (Z':=λb=>Z2 b∧(Z b∨w.heap.size≤b)) none hz1 (λb h=>h.2) (λb h=>hgr.lt b h.1) hfr.os hfr.tape hfr.output hfr.size (λk hk _=>hfr.block k hk (λe=>e)) (λ_ _=>rfl) (λr h=>by cases h)
        have inv1:=inv.stepped hst.2 hst.1
        have hfo':FrOK (λb=>Z2 b∧(Z b∨w.heap.size≤b)) w w' θR (frs2 (g i).2.1):=hfo.less (λb h=>h.1) (hc.imp (λe=>hz2 e) λh=>⟨h.2,frs2_flat h.1⟩)
        have hrep':Rep (λb=>Z2 b∧(Z b∨w.heap.size≤b)) w' θR (told2 (g i).2.1) v:=by
         rcases hc with e | h
         · exact hrep.step (Goes.wider w' (hz2 e))
         · exact flatX2_told h.1 hrep
        obtain ⟨θ',i2⟩:=putX_inv inv1 hdW hdN hfo' hwf.1 hwf.2 hrep' hold hXw
        exact hK v _ w' θ' _ hk i2
       rcases backX_cases hbk with ⟨e,hk⟩ | ⟨e,hfl,hk⟩ | ⟨h64,hk⟩
       · exact borrow (.inl e) hk
       · exact borrow (.inr ⟨e,hfl⟩) hk
       · have invf:=inv.frzL bs h64 (λr hr=> .inl (hlent r hr))
         have hmf:=invf.mem
         have hst:=hmf.stepW (w':=w') (m':=(frzL bs σ).m) (Z':=Z2) none hgr.sub hgr.new hgr.lt hfr.os hfr.tape hfr.output hfr.size (λk hk _=>hfr.block k hk (λe=>e)) (λ_ _=>rfl) (λr h=>by cases h)
         have inv1:=invf.stepped hst.2 hst.1
         obtain ⟨θ',i2⟩:=putX_inv inv1 hdW hdN hfo hwf.1 hwf.2 hrep (λr b hr hb=>by
          obtain ⟨blk,hblk⟩:=Option.isSome_iff_exists.1 hr
          exact hmf.lt hblk hb) hXw
         exact hK v _ w' θ' _ hk i2
 | true =>
   simp only [evX] at hev
   split at hev<;>try (exact hev.elim)
   rename_i r0 zs
   unfold evXC at hev
   split at hev<;>try (exact hev.elim)
   rename_i cs hmr
   cases hl:lends σ.m zs with
   | none=>rw [hl] at hev; exact hev.elim
   | some q =>
     obtain ⟨ys,bs⟩:=q
     rw [hl] at hev
     simp only [evXB] at hev
     obtain ⟨hcc,hev⟩:=hev
     cases hfn:fn cs ys with
     | none=>rw [hfn] at hev; exact hev.elim
     | some q =>
       obtain ⟨q,g⟩:=q
       rw [hfn] at hev
       obtain ⟨hq,hev⟩:=hev
       have hlent:=lends_lent hl
       obtain ⟨b,T,us,hθ,hheap,hnZ,hcells⟩:=hm.brep r0 _ hmr
       have hnl:=lentZ_not hm hlent hmr (by rw [hθ]; rfl) hnZ
       have hr0:r0∉bs:=λh=>by
        obtain ⟨T',z',es',he⟩:=hlent r0 h
        rw [hmr] at he; cases he
       generalize hevs:args.toList=evs at hreps
       cases evs with
       | nil=>have:=hreps.len; simp at this
       | cons v0 evs=>
         have h0:=hreps.rep 0 _ v0 rfl rfl
         have hrest:Reps Z w θ zs evs:=⟨by have:=hreps.len; simpa using this,λi c w' h1 h2=>hreps.rep (i+1) c w' (by simpa using h1) (by simpa using h2)⟩
         cases h0 with
         | ptr _ _ _ b' hθ'=>
           rw [hθ] at hθ'; simp at hθ'; subst hθ'
           have hargs:args=(pt b::evs).toArray:=by
            apply Array.ext'; simp [hevs]
           rw [hargs]
           refine (hS (lentZ θ bs Z) w b T cs us ys evs q g (lentZ_lt hm hlent) (lentZ_glb hm bs) hheap hnl ((hcells.step (Goes.wider w (λ_ h=> .inl h))).th_clean hcc th0) (lends_reps hm (λ_ h=> .inl h) hrest hl (λr hr b hb=> .inr ⟨r,hr,hb⟩)) hfn hq).mono ?_
           rintro e w' ⟨i,v,Z2,θR,T',us',hpost,rfl,hfr,hgr,hheap',hcells',hrep,hfo⟩
           obtain ⟨hwf,hbk⟩:=hev i hpost
           simp only [Bool.and_eq_true] at hwf
           have hnZ':¬ Z2 b:=by
            intro hb'
            rcases hgr.new b hb' with h | h
            · exact hnl h
            · have:=Qn0 hheap; omega
           have hblocks:∀ k,k < w.heap.size→(∀ r,some r0=some r→bk (θ r)≠some k)→w'.heap[k]? =w.heap[k]?:=λk hk hne=>hfr.block k hk (by
            intro e; subst e; exact hne r0 rfl (by rw [hθ]; rfl))
           have borrow:(bs= []∨((flatX2 (g i).2.1 && (g i).2.2.all AV.flat0) =true∧flatL (frs2 (g i).2.1)))→K (putX d (g i).2.1 ⟨σ.s,updM σ.m r0 (some (.cells (g i).2.2))⟩)→K' (a.put (some d) v) w':=by
            intro hc hk
            obtain ⟨hz1,hz2⟩:=back_rep hgr
            have hcs'':Cells (λb=>Z2 b∧(Z b∨w.heap.size≤b)) w' θ (g i).2.2 us':=by
             rcases hc with e | h
             · exact (hcells'.step (Goes.wider w' (hz2 e))).of_th0 θ
             · simp only [Bool.and_eq_true] at h
               exact hcells'.flat h.1.2
            have hst:=hm.stepW (w':=w') (m':=updM σ.m r0 (some (.cells (g i).2.2))) (Z':=λb=>Z2 b∧(Z b∨w.heap.size≤b)) (some r0) hz1 (λb h=>h.2) (λb h=>hgr.lt b h.1) hfr.os hfr.tape hfr.output hfr.size hblocks (λr' hr'=>by
             have:r'≠r0:=λe=>hr' (by rw [e])
             simp [updM,this]) (λr' hr'=>by
             simp only [sI] at hr'; subst hr'
             refine ⟨by simp [hmr],λblk hblk=>?_⟩
             simp [updM] at hblk
             subst hblk
             exact ⟨b,T',us',hθ,hheap',λh=>hnZ' h.1,hcs''⟩)
            have inv1:=inv.stepped hst.2 hst.1
            have hfo':FrOK (λb=>Z2 b∧(Z b∨w.heap.size≤b)) w w' θR (frs2 (g i).2.1):=hfo.less (λb h=>h.1) (hc.imp (λe=>hz2 e) λh=>by
             simp only [Bool.and_eq_true] at h
             exact ⟨h.2,frs2_flat h.1.1⟩)
            have hrep':Rep (λb=>Z2 b∧(Z b∨w.heap.size≤b)) w' θR (told2 (g i).2.1) v:=by
             rcases hc with e | h
             · exact hrep.step (Goes.wider w' (hz2 e))
             · simp only [Bool.and_eq_true] at h
               exact flatX2_told h.1.1 hrep
            obtain ⟨θ',i2⟩:=putX_inv inv1 hdW hdN hfo' hwf.1 hwf.2.1 hrep' (λr b hr hb=>by
             simp only [updM] at hr
             split at hr
             · rename_i e; subst e; exact hm.lt hmr hb
             · obtain ⟨blk,hblk⟩:=Option.isSome_iff_exists.1 hr
               exact hm.lt hblk hb) hXw
            exact hK v _ w' θ' _ hk i2
           rcases backX_cases hbk with ⟨e,hk⟩ | ⟨e,hfl,hk⟩ | ⟨h64,hk⟩
           · exact borrow (.inl e) hk
           · exact borrow (.inr ⟨e,hfl⟩) hk
           · have invf:=inv.frzL bs h64 (λr hr=> .inl (hlent r hr))
             have hmf:=invf.mem
             have hcell:∀ (bs:List Nat) (σ:St) (cs:List AV),r0∉bs→σ.m r0=some (.cells cs)→∃ cs',(frzL bs σ).m r0=some (.cells cs'):=by
              intro bs
              induction bs with
              | nil=>intro σ cs _ h; exact ⟨cs,h⟩
              | cons k ks ih=>
                intro σ cs hn h
                simp only [List.mem_cons,not_or] at hn
                obtain ⟨cs',h'⟩:=frzS_c (r:=k) hn.1 h
                exact ih _ cs' hn.2 h'
             obtain ⟨csf,hmrf⟩:=hcell bs σ cs hr0 hmr
             have hst:=hmf.stepW (w':=w') (m':=updM (frzL bs σ).m r0 (some (.cells (g i).2.2))) (Z':=Z2) (some r0) hgr.sub hgr.new hgr.lt hfr.os hfr.tape hfr.output hfr.size hblocks (λr' hr'=>by
              have:r'≠r0:=λe=>hr' (by rw [e])
              simp [updM,this]) (λr' hr'=>by
              simp only [sI] at hr'; subst hr'
              refine ⟨by simp [hmrf],λblk hblk=>?_⟩
              simp [updM] at hblk
              subst hblk
              exact ⟨b,T',us',hθ,hheap',hnZ',hcells'.of_th0 θ⟩)
             have inv1:=invf.stepped hst.2 hst.1
             obtain ⟨θ',i2⟩:=putX_inv inv1 hdW hdN hfo hwf.1 hwf.2.1 hrep (λr b hr hb=>by
              simp only [updM] at hr
              split at hr
              · rename_i e; subst e; exact hmf.lt hmrf hb
              · obtain ⟨blk,hblk⟩:=Option.isSome_iff_exists.1 hr
                exact hmf.lt hblk hb) hXw
             exact hK v _ w' θ' _ hk i2
theorem mkS_sound {o:Oper} {d:Nat} {t e:TypeId} {x:Operand}(ho:o.op= .convert t t x)(hu:P.underlying t=some (.slice e))(he:P.underlying e=some (.int .u8))(inv:Inv X N G Z w θ W σ a.tmps)(hod:o.dst=some d)(hdW:d∉W)(hdN:d < N)
 {x':A} (hx:compA x=some x') {K:St→Prop} (hev:mkS1 d σ K (ar σ x')) {K':Act→World→Prop} {Q:Exit→Act→World→Prop} (hK:∀ v Z' w' θ' σ',K σ'→Inv X N G Z' w' θ' (d::W) σ' (a.tmps.setIfInBounds d v)→K' (a.put (some d) v) w'):o.wp P a w K' Q:=by
 unfold mkS1 at hev
 split at hev<;>try (exact hev.elim)
 rename_i k v1 v2 v3 hax
 unfold mkS2 at hev
 split at hev<;>try (exact hev.elim)
 rename_i T z es hmk
 split at hev<;>try (exact hev.elim)
 rename_i h64
 have h64:64≤k:=by simpa using h64
 obtain ⟨hne,hk⟩:=hev
 have hm:=inv.mem
 have hr:=av_rep (σ:=σ) (p:=[]) inv.slot (by intro q hq; cases hq) hx (y:= .vw k v1 v2 v3) (by simp only [av,hax,gv])
 obtain ⟨hz0,hrows,xs,hown,hnz,hcs⟩:=hm.brep k _ hmk
 generalize hv:a.eval x=v at hr
 cases hr with
 | vw _ _ _ _ _ a' n' c' hθ=>
   have hown0:=hown
   rw [hθ] at hown
   rcases hown.2 with ⟨_,h0⟩ | ⟨g,cap,cur,hvv,_,hheap,hnc,hcm,hcsz,htake⟩
   · exact absurd (List.eq_nil_of_length_eq_zero h0) hne
   · cases hvv
     have hg:g < w.heap.size:=Qn0 hheap
     have hrun:(execOp a.eval o).run P w= .ok (.value (.slice (some ⟨g,0,none⟩) es.length c')) (w.freeze ⟨g,cur.size,none⟩ 1):=by
      have hsh:w.shape? g=some (T,cur.size):=by unfold World.shape?; rw [hheap]
      simp [execOp,ho,hv,convert,run_underlying hu,run_underlying he,markStringish,hsh]
     generalize hw':w.freeze ⟨g,cur.size,none⟩ 1=w' at hrun
     have hheap':w'.heap=w.heap.modify g fun
      | .cells c elem (lo,hi)=> .cells c elem (if lo == hi then (cur.size,cur.size+1) else (min lo cur.size,max hi (cur.size+1)))
      | o=>o:=by
      subst hw'; unfold World.freeze; rw [if_neg (by decide)]; rfl
     have hos:w'.os=w.os:=by subst hw'; unfold World.freeze; rw [if_neg (by decide)]
     have htp:w'.tape=w.tape:=by subst hw'; unfold World.freeze; rw [if_neg (by decide)]
     have hout:w'.output=w.output:=by subst hw'; unfold World.freeze; rw [if_neg (by decide)]
     have hsize:w'.heap.size=w.heap.size:=by rw [hheap']; simp
     have hoth:∀ b,b≠g→w'.heap[b]? =w.heap[b]?:=λb hb=>by
      rw [hheap',Array.getElem?_modify,if_neg (by omega)]
     have hcell:∀ b o',w'.cell? ⟨b,o',none⟩ =w.cell? ⟨b,o',none⟩:=λb o'=>by
      by_cases hb:b=g
      · subst hb
        unfold World.cell?
        simp only [hheap',Array.getElem?_modify,if_true,hheap]
        rfl
      · exact World.cell?_of_block (w:=w) (a:=⟨b,o',none⟩) (hoth b hb)
     have hbk:bk (θ k) =some g:=by rw [hθ]; rfl
     obtain ⟨hm1,hg1⟩:=hm.stepW (w':=w') (m':=updM σ.m k none) (Z':=Z) (some k) (λ_ h=>h) (λ_ h=> .inl h) (λb hb=>by rw [hsize]; exact hm.zlt b hb) hos htp hout (by omega)
      (λb hb hne=>hoth b λe=>hne k rfl (by rw [hbk,e])) (λr hr=>by
       have:r≠k:=λe=>hr (by rw [e])
       simp [updM,this]) (λr hr=>by
       simp only [sI] at hr; subst hr
       exact ⟨by rw [hmk]; rfl,λblk hblk=>by simp [updM] at hblk⟩)
     have inv1:=inv.stepped hg1 hm1
     have hL0:BufL (λb=>Z b∨b=g) w θ k z es:=hm.bufL hmk (λ_ h=> .inl h) (λb hb=> .inr (by rw [hbk] at hb; simpa using hb.symm))
     have hL:BufL (λb=>Z b∨b=g) w' θ k z es:=⟨hL0.lst.same λb o' _=>hcell b o',λlo hi v h=>(hL0.part lo hi v (h.same λb o' _=>(hcell b o').symm)).same λb o' _=>hcell b o'⟩
     have hm2:=hm1.frzN (r:=k) (z:=z) (es:=es) (g:=g) (by rw [hsize]; exact hg) (by
      rcases hm.own k g (by rw [hmk]; rfl) hbk with h | h
      · exact h
      · omega) (λr hr hb=>by
      simp only [updM] at hr
      split at hr
      · cases hr
      · rename_i hne'
        exact hne' (hm.disj r k g hr (by rw [hmk]; rfl) hb hbk)) hL
     have inv2:=Inv.frzW hL inv1 (λ_ h=> .inl h) hm2
     have heq:frzM k z es (updM σ.m k none) =updM (frzM k z es σ.m) k none:=by
      funext i
      by_cases hi:i=k
      · subst hi; simp [frzM,updM]
      · simp [frzM,updM,hi]
     rw [heq] at inv2
     have hlst:=hL.lst
     rw [hθ] at hlst
     have inv3:=Inv.put (a:=⟨a.tmps,[]⟩) inv2 hdW hdN (r:=⟨[],[],.lst z es,[],none,[]⟩) (v:= .slice (some ⟨g,0,none⟩) es.length c') ⟨hlst,.refl _ _,λ_ _=>rfl,inv2.mem,by simp⟩
     refine Qo0 hrun ?_
     rw [hod]
     exact hK _ _ _ _ _ hk inv3
end
end Go.Ev
namespace Go.Ev
open Go Go.RowKit
theorem nodupN_iff':∀ {l:List Nat},nodupN l=true↔l.Nodup
 | []=>by simp [nodupN]
 | x::l=>by simp [nodupN,nodupN_iff']
theorem lookN_mem:∀ {L:List (Nat×Nat)} {r j:Nat},lookN L r=some j→(r,j)∈L
 | [],_,_,h=>by cases h
 | (a,b)::L,r,j,h=>by
   simp only [lookN] at h
   split at h
   · rename_i e; subst e; cases h; simp
   · exact List.mem_cons_of_mem _ (lookN_mem h)
theorem lookN_of:∀ {L:List (Nat×Nat)} {r j:Nat},(L.map (·.1)).Nodup→(r,j)∈L→lookN L r=some j
 | [],_,_,_,h=>by cases h
 | (a,b)::L,r,j,hn,h=>by
   simp only [List.map_cons,List.nodup_cons] at hn
   simp only [lookN]
   rcases List.mem_cons.1 h with h | h
   · cases h; simp
   · have:r≠a:=λe=>hn.1 (List.mem_map.2 ⟨(r,j),h,e⟩)
     simp only [this,if_false]
     exact lookN_of hn.2 h
theorem unz_mem {L:List (Nat×Nat)} {j r:Nat}:(j,r)∈unz L↔(r,j)∈L∧j < 64:=by
 induction L with
 | nil=>simp [unz]
 | cons x L ih=>
   obtain ⟨r0,j0⟩:=x
   simp only [unz]
   split
   · rename_i h
     have h:j0 < 64:=by simpa using h
     simp only [List.mem_cons,Prod.mk.injEq,ih]
     constructor
     · rintro (⟨rfl,rfl⟩ | h')
       · exact ⟨.inl ⟨rfl,rfl⟩,h⟩
       · exact ⟨.inr h'.1,h'.2⟩
     · rintro ⟨⟨rfl,rfl⟩ | h',h2⟩
       · exact .inl ⟨rfl,rfl⟩
       · exact .inr ⟨h',h2⟩
   · rename_i h
     have h:¬ j0 < 64:=by simpa using h
     simp only [List.mem_cons,Prod.mk.injEq,ih]
     constructor
     · rintro h'; exact ⟨.inr h'.1,h'.2⟩
     · rintro ⟨⟨rfl,rfl⟩ | h',h2⟩
       · exact absurd h2 h
       · exact ⟨h',h2⟩
theorem pair_inj:∀ {L:List (Nat×Nat)} {r j j':Nat},(L.map (·.1)).Nodup→(r,j)∈L→(r,j')∈L→j=j':=by
 intro L r j j' hn h h'
 have:=(lookN_of hn h).symm.trans (lookN_of hn h')
 exact Option.some.inj this
section
variable {Z:Nat→Prop} {w:World} {θ θ':Nat→Value} {L:List (Nat×Nat)}
theorem mapA0_rep (hθ:∀ r j,lookN L r=some j→θ' j=θ r) {x:AV} {v:Value}(h:Rep Z w θ x v):Rep Z w θ' (mapA0 L x) v:=by
 cases x<;>simp only [mapA0]<;>try exact .junk _ _
 case ptr r o=>
  cases hl:lookN L r with
  | none=>exact .junk _ _
  | some j=>cases h with | ptr _ _ _ b hb=>exact .ptr _ _ _ _ ((hθ r j hl).trans hb)
 case vw r x y z=>
  cases hl:lookN L r with
  | none=>exact .junk _ _
  | some j=>cases h with | vw _ _ _ _ _ a n c hb=>exact .vw _ _ _ _ _ _ _ _ ((hθ r j hl).trans hb)
 case ap r x y z=>
  cases hl:lookN L r with
  | none=>exact .junk _ _
  | some j=>cases h with | ap _ _ _ _ _ _ hb h0 h1=>exact .ap _ _ _ _ _ _ ((hθ r j hl).trans hb) h0 h1
 case nb e=>cases h with | nb _ _ b hb=>exact .nb _ _ _ hb
 all_goals exact h.th_clean0 rfl θ'
theorem mapA0_atom {x:AV}:(mapA0 L x).atom=true:=by
 cases x<;>simp only [mapA0]<;>try rfl
 case ptr r o=>cases lookN L r<;>rfl
 case vw r x y z=>cases lookN L r<;>rfl
 case ap r x y z=>cases lookN L r<;>rfl
theorem mapA_cells (hθ:∀ r j,lookN L r=some j→θ' j=θ r) {cs:List AV} {vs:List Value}(h:Cells Z w θ cs vs):Cells Z w θ' (cs.map (mapA0 L)) vs:=by
 refine ⟨by simp [h.len],?_,h.one,?_⟩
 · intro c hc
   obtain ⟨c0,_,rfl⟩:=List.mem_map.1 hc
   exact mapA0_atom
 · intro i c v hc hv
   rw [List.getElem?_map] at hc
   obtain ⟨c0,h0,rfl⟩:=Option.map_eq_some_iff.1 hc
   exact mapA0_rep hθ (h.rep i c0 v h0 hv)
theorem mapA1_rep (hθ:∀ r j,lookN L r=some j→θ' j=θ r) {x:AV} {v:Value}(h:Rep Z w θ x v):Rep Z w θ' (mapA1 L x) v:=by
 cases x with
 | agg cs=>
   obtain ⟨vs,rfl,hc⟩:=h.cells
   exact (mapA_cells hθ hc).agg
 | _=>exact mapA0_rep hθ h
theorem mapA1_lev1 {x:AV}:(mapA1 L x).lev1=true:=by
 cases x with
 | agg cs=>rfl
 | _=>
   simp only [mapA1]
   generalize hq:mapA0 L _=q
   have:q.atom=true:=by rw [← hq]; exact mapA0_atom
   cases q<;>first | rfl | simp [AV.atom] at this
theorem mapA2_rep (hθ:∀ r j,lookN L r=some j→θ' j=θ r) {x:AV} {v:Value}(h:Rep Z w θ x v):Rep Z w θ' (mapA2 L x) v:=by
 cases x with
 | tup cs=>
   cases h with
   | tup _ _ vs hl ha h=>
     simp only [mapA2]
     refine .tup _ _ vs (by simp [hl]) ?_ ?_
     · intro c hc
       obtain ⟨c0,_,rfl⟩:=List.mem_map.1 hc
       exact mapA1_lev1
     · intro i c v hc hv
       rw [List.getElem?_map] at hc
       obtain ⟨c0,h0,rfl⟩:=Option.map_eq_some_iff.1 hc
       exact mapA1_rep hθ (h i c0 v h0 hv)
 | _=>exact mapA1_rep hθ h
theorem mapA_reps (hθ:∀ r j,lookN L r=some j→θ' j=θ r) {xs:List AV} {vs:List Value}(h:Reps Z w θ xs vs):Reps Z w θ' (xs.map (mapA1 L)) vs:=by
 refine ⟨by simp [h.len],λi c v hc hv=>?_⟩
 rw [List.getElem?_map] at hc
 obtain ⟨c0,h0,rfl⟩:=Option.map_eq_some_iff.1 hc
 exact mapA1_rep hθ (h.rep i c0 v h0 hv)
theorem mapB_brep (hθ:∀ r j,lookN L r=some j→θ' j=θ r) {r j:Nat} {b:Blk}(h:BRep Z w θ r b)(hj:θ' j=θ r):BRep Z w θ' j (mapB L b):=by
 cases b with
 | dead=>exact h.elim
 | cells cs=>
   obtain ⟨b,T,vs,e1,e2,e3,e4⟩:=h
   exact ⟨b,T,vs,by rw [hj]; exact e1,e2,e3,mapA_cells hθ e4⟩
 | buf t z es=>
   obtain ⟨e1,e2,xs,e3,e4,e5⟩:=h
   exact ⟨e1,e2,xs,by rw [hj]; exact e3,by rw [hj]; exact e4,e5⟩
 | qb t z es=>
   obtain ⟨e1,e2,xs,e3,e4,e5⟩:=h
   exact ⟨e1,e2,xs,by rw [hj]; exact e3,by rw [hj]; exact e4,e5⟩
 | ms n ks=>
   obtain ⟨b,E,clock,e1,e2,e3,e4⟩:=h
   exact ⟨b,E,clock,by rw [hj]; exact e1,e2,e3,e4⟩
 | clo f z es i off=>
   obtain ⟨v,e1,e2⟩:=h
   exact ⟨v,by rw [hj]; exact e1,e2⟩
theorem BRep.notZ {r:Nat} {b:Blk}(h:BRep Z w θ r b):∀ k,bk (θ r) =some k→k < w.heap.size∧¬ Z k:=by
 intro k hk
 cases b with
 | dead=>exact h.elim
 | cells cs=>
   obtain ⟨b,T,vs,e1,e2,e3,e4⟩:=h
   rw [e1] at hk; simp [bk] at hk; subst hk
   exact ⟨Qn0 e2,e3⟩
 | buf t z es=>
   obtain ⟨e1,e2,xs,e3,e4,e5⟩:=h
   exact ⟨ownsRow_lt e3 k hk,e4 k hk⟩
 | qb t z es=>
   obtain ⟨e1,e2,xs,e3,e4,e5⟩:=h
   exact ⟨qrow_lt e3 k hk,e4 k hk⟩
 | ms n ks=>
   obtain ⟨b,E,clock,e1,e2,e3,e4⟩:=h
   rw [e1] at hk; simp [bk] at hk; subst hk
   exact ⟨Qn0 e2,e3⟩
 | clo f z es i off=>
   obtain ⟨v,e1,e2⟩:=h
   rw [e1] at hk; cases hk
theorem BRep.stepG {Z':Nat→Prop} {w':World} {r:Nat} {b:Blk}(h:BRep Z w θ r b)(g:Goes Z w Z' w')(hs:∀ k,bk (θ r) =some k→w'.heap[k]? =w.heap[k]?∧(Z' k→Z k)):BRep Z' w' θ r b:=by
 cases b with
 | dead=>exact h.elim
 | cells cs=>
   obtain ⟨b,T,vs,e1,e2,e3,e4⟩:=h
   have:=hs b (by rw [e1]; rfl)
   exact ⟨b,T,vs,e1,this.1.trans e2,λhz=>e3 (this.2 hz),e4.step g⟩
 | buf t z es=>
   obtain ⟨e1,e2,xs,e3,e4,e5⟩:=h
   exact ⟨e1,e2,xs,ownsRow_of e3 λk hk _=>(hs k hk).1,λk hk hz=>e4 k hk ((hs k hk).2 hz),e5.step g⟩
 | qb t z es=>
   obtain ⟨e1,e2,xs,e3,e4,e5⟩:=h
   exact ⟨e1,e2,xs,qrow_of e3 λk hk _=>(hs k hk).1,λk hk hz=>e4 k hk ((hs k hk).2 hz),e5.step g⟩
 | ms n ks=>
   obtain ⟨b,E,clock,e1,e2,e3,e4⟩:=h
   have:=hs b (by rw [e1]; rfl)
   exact ⟨b,E,clock,e1,this.1.trans e2,λhz=>e3 (this.2 hz),e4⟩
 | clo f z es i off=>
   obtain ⟨v,e1,e2⟩:=h
   exact ⟨v,e1,e2.step g⟩
end
section
variable {X:Cx} {Z Z':Nat→Prop} {w w':World} {θ:Nat→Value} {m:Nat→Option Blk}
theorem Mem.stepG (h:Mem X Z w θ m)(hz:∀ b,Z b→Z' b)(hzk:∀ r b,(m r).isSome=true→bk (θ r) =some b→Z' b→Z b)(hzn:∀ b,Z' b→X.Z0 b∨X.mine b)(zlt:∀ b,Z' b→b < w'.heap.size)
 (os:w'.os=w.os) (tape:w'.tape=w.tape) (output:w'.output=w.output) (size:w.heap.size≤w'.heap.size) (hk:∀ r b,(m r).isSome=true→bk (θ r) =some b→w'.heap[b]? =w.heap[b]?)
 (hZ:∀ b,Z b→w'.heap[b]? =w.heap[b]?) (hX:∀ k,k < X.w0.heap.size→¬ X.all k→w'.heap[k]? =w.heap[k]?):Mem X Z' w' θ m∧Goes Z w Z' w':=by
 have g:Goes Z w Z' w':=⟨hz,hZ⟩
 refine ⟨⟨?_,h.disj,h.own,zlt,?_,λb hb=>hz b (h.zin b hb),hzn,h.fix,g.glb h.glb⟩,g⟩
 · intro r blk hr
   exact (h.brep r blk hr).stepG g λk hb=>⟨hk r k (by rw [hr]; rfl) hb,hzk r k (by rw [hr]; rfl) hb⟩
 · refine ⟨os.trans h.frame.os,tape.trans h.frame.tape,output.trans h.frame.output,Nat.le_trans h.frame.size size,λk hk' hn=>?_⟩
   rw [hX k hk' hn]
   exact h.frame.block k hk' hn
theorem Mem.kl1 {θ2:Nat→Value}(h:Mem X Z w θ m) {r:Nat}(hr:64≤r)(ht:∀ k,k≠r→θ2 k=θ k):Mem X Z w θ2 (updM (killM r m) r none):=by
 have key:∀ k blk,updM (killM r m) r none k=some blk→k≠r∧∃ b0,m k=some b0∧blk=killB r b0:=by
  intro k blk hk
  simp only [updM] at hk
  split at hk
  · cases hk
  · rename_i e
    simp only [killM] at hk
    cases hm:m k with
    | none=>rw [hm] at hk; cases hk
    | some b0=>rw [hm] at hk; cases hk; exact ⟨e,b0,rfl,rfl⟩
 have some_of:∀ k,(updM (killM r m) r none k).isSome=true→k≠r∧(m k).isSome=true:=by
  intro k hk
  obtain ⟨b,hb⟩:=Option.isSome_iff_exists.1 hk
  obtain ⟨h1,b0,h2,_⟩:=key k b hb
  exact ⟨h1,by rw [h2]; rfl⟩
 refine ⟨?_,?_,?_,h.zlt,h.frame,h.zin,h.znew,?_,h.glb⟩
 · intro k blk hk
   obtain ⟨h1,b0,h2,rfl⟩:=key k blk hk
   have hb:=h.brep k b0 h2
   have e:=ht k h1
   cases b0 with
   | dead=>exact hb.elim
   | cells cs=>
     obtain ⟨b,T,vs,e1,e2,e3,e4⟩:=hb
     exact ⟨b,T,vs,by rw [e]; exact e1,e2,e3,e4.kill r ht⟩
   | buf t z es=>
     obtain ⟨e1,e2,xs,e3,e4,e5⟩:=hb
     exact ⟨e1,e2,xs,by rw [e]; exact e3,by rw [e]; exact e4,e5⟩
   | qb t z es=>
     obtain ⟨e1,e2,xs,e3,e4,e5⟩:=hb
     exact ⟨e1,e2,xs,by rw [e]; exact e3,by rw [e]; exact e4,e5⟩
   | ms n ks=>
     obtain ⟨b,E,clock,e1,e2,e3,e4⟩:=hb
     exact ⟨b,E,clock,by rw [e]; exact e1,e2,e3,e4⟩
   | clo f z es i off=>
     obtain ⟨v,e1,e2⟩:=hb
     exact ⟨v,by rw [e]; exact e1,e2⟩
 · intro k k' b h1 h2 h3 h4
   obtain ⟨n1,s1⟩:=some_of k h1
   obtain ⟨n2,s2⟩:=some_of k' h2
   rw [ht k n1] at h3; rw [ht k' n2] at h4
   exact h.disj k k' b s1 s2 h3 h4
 · intro k b h1 h2
   obtain ⟨n1,s1⟩:=some_of k h1
   rw [ht k n1] at h2
   exact h.own k b s1 h2
 · intro k hk
   rw [ht k (by omega)]
   exact h.fix k hk
end
section
variable {m:Nat→Option Blk}
theorem inpL_spec {L0:List (Nat×Nat)}:∀ {L:List (Nat×Nat)} {bs:List (Nat×Blk)},inpL m L0 L=some bs→bs.map (·.1) =L.map (·.2)∧(∀ x∈bs,∃ r b,(r,x.1)∈L∧m r=some b∧x.2=mapB L0 b∧okIn r x.1 b=true)∧(∀ y∈L,(m y.1).isSome=true)
 | [],bs,h=>by
   simp only [inpL,sI] at h; subst h
   exact ⟨rfl,by simp,by simp⟩
 | (r, j)::L,bs,h=>by
   simp only [inpL] at h
   unfold inC at h
   split at h<;>try (cases h; done)
   rename_i b bs' hb hbs
   split at h<;>try (cases h; done)
   rename_i hok
   simp only [sI] at h; subst h
   obtain ⟨h1,h2,h3⟩:=inpL_spec hbs
   refine ⟨by simp [h1],?_,?_⟩
   · intro x hx
     rcases List.mem_cons.1 hx with rfl | hx
     · exact ⟨r,b,by simp,hb,rfl,hok⟩
     · obtain ⟨r',b',k1,k2⟩:=h2 x hx
       exact ⟨r',b',List.mem_cons_of_mem _ k1,k2⟩
   · intro y hy
     rcases List.mem_cons.1 hy with rfl | hy
     · rw [hb]; rfl
     · exact h3 y hy
end
section
variable {X:Cx} {N:Nat} {G:Prop} {W:List Nat} {Z Z':Nat→Prop} {w w':World} {θ θ':Nat→Value}
theorem Inv.drpL {tm:Array Value}:∀ (l:List Nat) {σ:St},Inv X N G Z w θ W σ tm→Inv X N G Z w θ W (Ev.drpL l σ) tm
 | [],σ,h=>h
 | r::l,σ,h=>Inv.drpL l (σ:=drp r σ) (h.stepped (.refl Z w) (h.mem.drop r))
theorem drpL_m:∀ (l:List Nat)(σ:St)(k:Nat),(drpL l σ).m k=if k∈l then none else σ.m k
 | [],σ,k=>by simp [drpL]
 | r::l,σ,k=>by
   simp only [drpL]
   rw [drpL_m l (drp r σ) k]
   simp only [drp,updM,List.mem_cons]
   by_cases h:k∈l<;>by_cases h':k=r<;>simp [h,h']
theorem bidL_get {d:Nat} {os:List (Nat×Nat)}:∀ {bs:List (Nat×Blk)} {p i:Nat} {x:Nat×Blk},bs[i]? =some x→(bidL d os p bs)[i]? =some (bidO d (p+i) x.1 (lookN os x.1))
 | [],p,i,x,h=>by simp at h
 | (nm,b)::bs,p,i,x,h=>by
   cases i with
   | zero=>simp only [List.getElem?_cons_zero,sI] at h; subst h; simp [bidL]
   | succ i=>
     simp only [List.getElem?_cons_succ] at h
     simp only [bidL,List.getElem?_cons_succ]
     rw [bidL_get h,show p+1+i=p+(i+1) by omega]
theorem bidL_len {d:Nat} {os:List (Nat×Nat)}:∀ {bs:List (Nat×Blk)} {p:Nat},(bidL d os p bs).length=bs.length
 | [],p=>rfl
 | (nm,b)::bs,p=>by simp [bidL,bidL_len]
theorem bidO_1 (d p nm:Nat)(o:Option Nat):(bidO d p nm o).1=nm:=by cases o<;>rfl
theorem bidL_1 {d:Nat} {os:List (Nat×Nat)}:∀ {bs:List (Nat×Blk)} {p:Nat},(bidL d os p bs).map (·.1) =bs.map (·.1)
 | [],p=>rfl
 | (nm,b)::bs,p=>by simp [bidL,bidL_1,bidO_1]
theorem Inv.newL {tm:Array Value} {d:Nat} {os:List (Nat×Nat)}(θR:Nat→Value):∀ (bs:List (Nat×Blk))(p:Nat) {σ:St} {θ:Nat→Value},Inv X N G Z w θ W σ tm→
 ∃ θ2,Inv X N G Z w θ2 W (Ev.newL d os p bs σ) tm∧(∀ (i:Nat) (x:Nat×Blk),bs[i]? =some x→lookN os x.1=none→θ2 (64 * d+64+(p+i)) =θR x.1)∧(∀ k,(∀ (i:Nat) (x:Nat×Blk),bs[i]? =some x→lookN os x.1=none→k≠64 * d+64+(p+i))→θ2 k=θ k)∧
   (∀ k,(∀ (i:Nat) (x:Nat×Blk),bs[i]? =some x→lookN os x.1=none→k≠64 * d+64+(p+i))→((Ev.newL d os p bs σ).m k).isSome=(σ.m k).isSome)∧(∀ (i:Nat) (x:Nat×Blk),bs[i]? =some x→lookN os x.1=none→(Ev.newL d os p bs σ).m (64 * d+64+(p+i)) =none)
 | [],p,σ,θ,inv=>⟨θ,inv,by simp,λ_ _=>rfl,λ_ _=>rfl,by simp⟩
 | (nm,b)::bs,p,σ,θ,inv=>by
   simp only [Ev.newL]
   cases hl:lookN os nm with
   | some r=>
     obtain ⟨θ2,h1,h2,h3,h4,h5⟩:=Inv.newL θR bs (p+1) inv
     refine ⟨θ2,h1,?_,?_,?_,?_⟩
     · intro i x hx hx2
       cases i with
       | zero=>simp only [List.getElem?_cons_zero,sI] at hx; subst hx; rw [hl] at hx2; cases hx2
       | succ i=>rw [show p+(i+1) =p+1+i by omega]; exact h2 i x (by simpa using hx) hx2
     · intro k hk
       refine h3 k λi x hx hx2=>?_
       rw [show p+1+i=p+(i+1) by omega]
       exact hk (i+1) x (by simpa using hx) hx2
     · intro k hk
       refine h4 k λi x hx hx2=>?_
       rw [show p+1+i=p+(i+1) by omega]
       exact hk (i+1) x (by simpa using hx) hx2
     · intro i x hx hx2
       cases i with
       | zero=>simp only [List.getElem?_cons_zero,sI] at hx; subst hx; rw [hl] at hx2; cases hx2
       | succ i=>rw [show p+(i+1) =p+1+i by omega]; exact h5 i x (by simpa using hx) hx2
   | none=>
     simp only [newK]
     have ht:∀ k,k≠64 * d+64+p→(λk=>if k=64 * d+64+p then θR nm else θ k) k=θ k:=λk hk=>by simp [hk]
     have hm:=inv.mem.kl1 (r:=64 * d+64+p) (by omega) ht
     have inv1:=inv.killed (64 * d+64+p) ht hm
     obtain ⟨θ2,h1,h2,h3,h4,h5⟩:=Inv.newL (θ:=λk=>if k=64 * d+64+p then θR nm else θ k) (σ:=kl1 (64 * d+64+p) σ) θR bs (p+1) inv1
     have hmk:∀ k,k≠64 * d+64+p→((kl1 (64 * d+64+p) σ).m k).isSome=(σ.m k).isSome:=λk hk=>by
      simp only [kl1,updM,hk,if_false,killM]
      cases σ.m k<;>rfl
     refine ⟨θ2,h1,?_,?_,?_,?_⟩
     · intro i x hx hx2
       cases i with
       | zero=>
         simp only [List.getElem?_cons_zero,sI] at hx; subst hx
         rw [h3 _ (λi x hx hx2=>by omega)]
         simp
       | succ i=>rw [show p+(i+1) =p+1+i by omega]; exact h2 i x (by simpa using hx) hx2
     · intro k hk
       rw [h3 k λi x hx hx2=>?_]
       · have:=hk 0 (nm,b) rfl hl
         simp at this
         simp [this]
       · rw [show p+1+i=p+(i+1) by omega]
         exact hk (i+1) x (by simpa using hx) hx2
     · intro k hk
       rw [h4 k λi x hx hx2=>?_]
       · have:=hk 0 (nm,b) rfl hl
         exact hmk k (by simpa using this)
       · rw [show p+1+i=p+(i+1) by omega]
         exact hk (i+1) x (by simpa using hx) hx2
     · intro i x hx hx2
       cases i with
       | zero=>
         simp only [List.getElem?_cons_zero,sI] at hx; subst hx
         have:=h4 (64 * d+64+(p+0)) (λi x hx hx2=>by omega)
         have e:((kl1 (64 * d+64+p) σ).m (64 * d+64+(p+0))) =none:=by simp [kl1,updM]
         rw [e] at this
         cases hq:(Ev.newL d os (p+1) bs (kl1 (64 * d+64+p) σ)).m (64 * d+64+(p+0)) with
         | none=>rfl
         | some y=>rw [hq] at this; cases this
       | succ i=>rw [show p+(i+1) =p+1+i by omega]; exact h5 i x (by simpa using hx) hx2
theorem putL_s {L:List (Nat×Nat)}:∀ (l:List (Nat×Nat))(bs:List (Nat×Blk))(σ:St),(putL L l bs σ).s=σ.s
 | [],_,σ=>by simp [putL]
 | _ ::_,[],σ=>by simp [putL]
 | (_,r)::l,(_,b)::bs,σ=>by simp only [putL]; rw [putL_s l bs]
theorem Zy0 {L:List (Nat×Nat)}:∀ (l:List (Nat×Nat))(bs:List (Nat×Blk))(σ:St)(k:Nat),k∉l.map (·.2)→(putL L l bs σ).m k=σ.m k
 | [],_,σ,k,_=>by simp [putL]
 | _ ::_,[],σ,k,_=>by simp [putL]
 | (_,r)::l,(_,b)::bs,σ,k,h=>by
   simp only [List.map_cons,List.mem_cons,not_or] at h
   simp only [putL]
   rw [Zy0 l bs _ k h.2]
   simp [updM,h.1]
theorem putL_at {L:List (Nat×Nat)}:∀ (l:List (Nat×Nat))(bs:List (Nat×Blk))(σ:St)(i:Nat)(x:Nat×Nat)(y:Nat×Blk),(l.map (·.2)).Nodup→l[i]? =some x→bs[i]? =some y→(putL L l bs σ).m x.2=some (mapB L y.2)
 | [],_,σ,i,x,y,_,h,_=>by simp at h
 | _ ::_,[],σ,i,x,y,_,_,h=>by simp at h
 | (n,r)::l,(n',b)::bs,σ,i,x,y,hn,h1,h2=>by
   simp only [List.map_cons,List.nodup_cons] at hn
   simp only [putL]
   cases i with
   | zero=>
     simp only [List.getElem?_cons_zero,sI] at h1 h2; subst h1; subst h2
     rw [Zy0 l bs _ r hn.1]
     simp [updM]
   | succ i=>
     simp only [List.getElem?_cons_succ] at h1 h2
     exact putL_at l bs _ i x y hn.2 h1 h2
section
variable {P:Program} {a:Act} {σ:St}
theorem evGE_sound {o:Oper} {f d:Nat} {ι:Type} {ho:List Nat} {fz:Bool} {fn:List (Nat×Blk)→List AV→Option (Prop×(ι→Prop×AV×List (Nat×Blk)))}(hS:Sound P f (.gr ι ho fz fn))(inv:Inv X N G Z w θ W σ a.tmps)(hod:o.dst=some d)(hdW:d∉W)(hdN:d < N)
 {args:Array Value} (hrun:(execOp a.eval o).run P w= .ok (.enter f args) w) {vs:List AV} (hreps:Reps Z w θ vs args.toList) {K:St→Prop} {L:List (Nat×Nat)} (hev:evGE ι fn d L vs σ K)
 {K':Act→World→Prop} {Q:Exit→Act→World→Prop} (hK:∀ v Z' w' θ' σ',K σ'→Inv X N G Z' w' θ' (d::W) σ' (a.tmps.setIfInBounds d v)→K' (a.put (some d) v) w'):o.wp P a w K' Q:=by
 have hm:=inv.mem
 unfold evGE at hev
 cases hin:inpL σ.m L L with
 | none=>rw [hin] at hev; exact hev.elim
 | some bs =>
   rw [hin] at hev
   simp only [evGF,Bool.and_eq_true] at hev
   obtain ⟨⟨hn1,hn2⟩,hev⟩:=hev
   rw [nodupN_iff'] at hn1 hn2
   cases hfn:fn bs (vs.map (mapA1 L)) with
   | none=>rw [hfn] at hev; exact hev.elim
   | some qg=>
     obtain ⟨q,g⟩:=qg
     rw [hfn] at hev
     obtain ⟨hq,hev⟩:=hev
     obtain ⟨hi1,hi2,hi3⟩:=inpL_spec hin
     let θc:Nat→Value:=λj=>match lookN (L.map λx=>(x.2,x.1)) j with
      | some r=>θ r
      | none=> .nilIface
     have hθc:∀ r j,(r,j)∈L→θc j=θ r:=by
      intro r j h
      have:lookN (L.map λx=>(x.2,x.1)) j=some r:=lookN_of (by simpa [List.map_map,Function.comp_def] using hn2) (List.mem_map.2 ⟨(r,j),h,rfl⟩)
      simp only [θc,this]
     have hθc':∀ r j,lookN L r=some j→θc j=θ r:=λr j h=>hθc r j (lookN_mem h)
     have hinok:InOK Z w θc bs:=by
      refine ⟨by rw [hi1]; exact hn2,?_,?_⟩
      · intro x hx
        obtain ⟨r,b,h1,h2,h3,_⟩:=hi2 x hx
        rw [h3]
        exact mapB_brep hθc' (hm.brep r b h2) (hθc r x.1 h1)
      · intro x hx y hy b hb hb'
        obtain ⟨r,b1,h1,h2,_⟩:=hi2 x hx
        obtain ⟨r',b2,h1',h2',_⟩:=hi2 y hy
        rw [hθc r x.1 h1] at hb
        rw [hθc r' y.1 h1'] at hb'
        have:=hm.disj r r' b (by rw [h2]; rfl) (by rw [h2']; rfl) hb hb'
        subst this
        exact pair_inj hn1 h1 h1'
     have hS1:∀ b,(∃ x∈bs,bk (θc x.1) =some b)→∃ r,r∈L.map (·.1)∧(σ.m r).isSome=true∧bk (θ r) =some b:=by
      rintro b ⟨x,hx,hb⟩
      obtain ⟨r,b1,h1,h2,_⟩:=hi2 x hx
      rw [hθc r x.1 h1] at hb
      exact ⟨r,List.mem_map.2 ⟨_,h1,rfl⟩,by rw [h2]; rfl,hb⟩
     have hS2:∀ b,(∃ x∈bs,64≤x.1∧bk (θc x.1) =some b)→∃ r,r∈L.map (·.1)∧(σ.m r).isSome=true∧bk (θ r) =some b∧X.mine b:=by
      rintro b ⟨x,hx,h64,hb⟩
      obtain ⟨r,b1,h1,h2,h3,hok⟩:=hi2 x hx
      rw [hθc r x.1 h1] at hb
      refine ⟨r,List.mem_map.2 ⟨_,h1,rfl⟩,by rw [h2]; rfl,hb,?_⟩
      rcases hm.own r b (by rw [h2]; rfl) hb with h | ⟨hlt,_⟩
      · exact h
      · exfalso
        cases b1<;>simp only [okIn,Bool.or_eq_true,decide_eq_true_eq] at hok
        · omega
        · omega
        · cases hok
        · cases hok
        · obtain ⟨v,e1,_⟩:=hm.brep r _ h2
          rw [e1] at hb; cases hb
        · cases hok
     unfold Oper.wp
     rw [hrun,Oper.upon_enter]
     rw [hod]
     have hargs:args=args.toList.toArray:=by simp
     rw [hargs]
     refine (hS Z w θc bs (vs.map (mapA1 L)) args.toList q g hm.zlt hm.glb hinok (mapA_reps hθc' hreps) hfn hq).mono ?_
     rintro e w' ⟨i,v,Z2,θR,hpost,rfl,hfr,hz1,hz2,hz3,hrep,hout⟩
     have hgi:=hev i hpost
     generalize hO:(g i).2.2=outs at hgi hout
     generalize hV:(g i).2.1=rv at hgi hrep
     simp only [evGP] at hgi
     generalize hL':bidL d (unz L) 0 outs=L' at hgi
     obtain ⟨hb1,hb2,hk⟩:=hgi
     simp only [Bool.and_eq_true,decide_eq_true_eq] at hb1 hb2
     obtain ⟨hokN,hnd,hlen⟩:=hb1
     obtain ⟨hidn,hlive⟩:=hb2
     rw [nodupN_iff'] at hnd hidn
     have inv1:=inv.drpL (L.map (·.1))
     have hd1:∀ k,(((drpL (L.map (·.1)) σ).m k).isSome=true)→k∉L.map (·.1)∧(σ.m k).isSome=true:=by
      intro k hk
      rw [drpL_m] at hk
      split at hk
      · cases hk
      · exact ⟨by assumption,hk⟩
     have apart:∀ k b,k∉L.map (·.1)→(σ.m k).isSome=true→bk (θ k) =some b→¬ ∃ x∈bs,bk (θc x.1) =some b:=by
      intro k b h1 h2 h3 h4
      obtain ⟨r,hr1,hr2,hr3⟩:=hS1 b h4
      have:=hm.disj k r b h2 hr2 h3 hr3
      subst this
      exact h1 hr1
     have hXw:=hm.frame.size
     obtain ⟨hm2,hg2⟩:=inv1.mem.stepG (Z':=Z2) (w':=w') hz1 (λr b hr hb hzb=>by
      obtain ⟨h1,h2⟩:=hd1 r hr
      rcases hz2 b hzb with h | h | h
      · exact h
      · obtain ⟨blk,hblk⟩:=Option.isSome_iff_exists.1 h2
        have:=hm.lt hblk hb; omega
      · obtain ⟨x,hx,_,hx2⟩:=h
        exact absurd ⟨x,hx,hx2⟩ (apart r b h1 h2 hb)) (λb hzb=>by
      rcases hz2 b hzb with h | h | h
      · exact hm.znew b h
      · exact .inr (.inl (by omega))
      · obtain ⟨r,_,_,_,h4⟩:=hS2 b h
        exact .inr h4) hz3 hfr.os hfr.tape hfr.output hfr.size (λr b hr hb=>by
      obtain ⟨h1,h2⟩:=hd1 r hr
      obtain ⟨blk,hblk⟩:=Option.isSome_iff_exists.1 h2
      exact hfr.block b (hm.lt hblk hb) (apart r b h1 h2 hb)) (λb hb=>hfr.block b (hm.zlt b hb) λh=>by
      obtain ⟨r,_,h2,h3⟩:=hS1 b h
      obtain ⟨blk,hblk⟩:=Option.isSome_iff_exists.1 h2
      exact ((hm.brep r blk hblk).notZ b h3).2 hb) (λk hk hn=>hfr.block k (by omega) λh=>by
      obtain ⟨r,_,h2,h3⟩:=hS1 k h
      rcases hm.own r k h2 h3 with (h | h) | h
      · omega
      · exact hn (.inr h)
      · exact hn (.inl h.2))
     have inv2:Inv X N G Z2 w' θ W (drpL (L.map (·.1)) σ) a.tmps:=by
      have:=inv1.stepped hg2 hm2
      exact this
     have hun:∀ nm r,lookN (unz L) nm=some r→(r,nm)∈L∧nm < 64:=λnm r h=>unz_mem.1 (lookN_mem h)
     have hname:∀ x∈outs,lookN (unz L) x.1=none→64≤x.1:=by
      have :∀ (l:List (Nat×Blk)),okN (unz L) l=true→∀ x∈l,lookN (unz L) x.1=none→64≤x.1:=by
       intro l
       induction l with
       | nil=>intro _ x hx; cases hx
       | cons y l ih=>
         intro h x hx hn
         obtain ⟨nm,b⟩:=y
         simp only [okN,Bool.and_eq_true,Bool.or_eq_true,decide_eq_true_eq] at h
         rcases List.mem_cons.1 hx with rfl | hx
         · rcases h.1 with h1 | h1
           · rw [hn] at h1; cases h1
           · exact h1
         · exact ih h.2 x hx hn
      exact this outs hokN
     obtain ⟨θ3,inv3,h3a,h3b,h3c,h3d⟩:=inv2.newL (d:=d) (os:=unz L) θR outs 0
     simp only [Nat.zero_add] at h3a h3b h3c h3d
     have hLget:∀ i x,outs[i]? =some x→L'[i]? =some (bidO d i x.1 (lookN (unz L) x.1)):=by
      intro i x hx
      rw [← hL',bidL_get hx,Nat.zero_add]
     have hLlen:L'.length=outs.length:=by rw [← hL',bidL_len]
     have hL1:L'.map (·.1) =outs.map (·.1):=by rw [← hL',bidL_1]
     have hLmem:∀ nm r,(nm,r)∈L'→∃ (i:Nat) (x:Nat×Blk),outs[i]? =some x∧x.1=nm∧L'[i]? =some (nm,r)∧((lookN (unz L) nm=some r∧(r,nm)∈L∧nm < 64)∨(lookN (unz L) nm=none∧r=64 * d+64+i∧64≤nm)):=by
      intro nm r h
      obtain ⟨i,hi⟩:=List.getElem?_of_mem h
      have hlt:i < outs.length:=by rw [← hLlen]; exact (List.getElem?_eq_some_iff.1 hi).1
      have hx:=List.getElem?_eq_getElem hlt
      have h1:=hLget i _ hx
      rw [hi] at h1
      have h1:=Option.some.inj h1
      have hnm:nm=outs[i].1:=by
       have:=congrArg Prod.fst h1
       rw [bidO_1] at this; exact this
      refine ⟨i,outs[i],hx,hnm.symm,hi,?_⟩
      rw [hnm]
      cases hl:lookN (unz L) outs[i].1 with
      | some r'=>
        rw [hl] at h1
        simp only [bidO,Prod.mk.injEq] at h1
        have:=hun _ _ hl
        rw [h1.2]
        exact .inl ⟨rfl,this.1,this.2⟩
      | none=>
        rw [hl] at h1
        simp only [bidO,Prod.mk.injEq] at h1
        exact .inr ⟨rfl,h1.2,hname _ (List.getElem_mem hlt) hl⟩
     have new_id:∀ (i:Nat) (x:Nat×Blk),outs[i]? =some x→lookN (unz L) x.1=none→L'[i]? =some (x.1,64 * d+64+i):=by
      intro i x hx hn
      rw [hLget i x hx,hn]; rfl
     have id_inj:∀ (i j:Nat) (x y:Nat×Nat),L'[i]? =some x→L'[j]? =some y→x.2=y.2→i=j:=by
      intro i j x y hx hy hxy
      have h1:(L'.map (·.2))[i]? =some x.2:=by rw [List.getElem?_map,hx]; rfl
      have h2:(L'.map (·.2))[j]? =some x.2:=by rw [List.getElem?_map,hy,hxy]; rfl
      have hi:=(List.getElem?_eq_some_iff.1 h1).1
      exact (List.getElem?_inj hi hidn).1 (h1.trans h2.symm)
     have hθ3:∀ nm r,(nm,r)∈L'→θ3 r=θR nm:=by
      intro nm r h
      obtain ⟨i,x,hx,hxn,hi,hor⟩:=hLmem nm r h
      rcases hor with ⟨hl,h1,h2⟩ | ⟨hl,h1,h2⟩
      · rw [h3b r λj y hy hyn he=>?_]
        · rw [hout.fix nm h2,hθc r nm h1]
        · have:=id_inj i j _ _ hi (new_id j y hy hyn) he
          subst this
          rw [hx] at hy; cases hy
          rw [hxn,hl] at hyn; cases hyn
      · subst h1; subst hxn
        exact h3a i x hx hl
     have hθ3':∀ nm r,lookN L' nm=some r→θ3 r=θR nm:=λnm r h=>hθ3 nm r (lookN_mem h)
     have hold3:∀ k,((newL d (unz L) 0 outs (drpL (L.map (·.1)) σ)).m k).isSome=true→k∉L.map (·.1)∧(σ.m k).isSome=true∧θ3 k=θ k:=by
      intro k hk
      by_cases hnew:∀ (i:Nat) (x:Nat×Blk),outs[i]? =some x→lookN (unz L) x.1=none→k≠64 * d+64+i
      · rw [h3c k hnew] at hk
        obtain ⟨h1,h2⟩:=hd1 k hk
        exact ⟨h1,h2,h3b k hnew⟩
      · exfalso
        apply hnew
        intro i x hx hn he
        rw [he,h3d i x hx hn] at hk
        cases hk
     have outB:∀ nm r b,(nm,r)∈L'→bk (θR nm) =some b→(∃ x∈bs,bk (θc x.1) =some b)∨w.heap.size≤b:=by
      intro nm r b h hb
      obtain ⟨i,x,hx,hxn,hi,hor⟩:=hLmem nm r h
      rcases hor with ⟨hl,h1,h2⟩ | ⟨hl,h1,h2⟩
      · left
        rw [hout.fix nm h2] at hb
        have:nm∈bs.map (·.1):=by rw [hi1]; exact List.mem_map.2 ⟨_,h1,rfl⟩
        obtain ⟨y,hy,hyn⟩:=List.mem_map.1 this
        exact ⟨y,hy,by rw [hyn]; exact hb⟩
      · subst hxn
        rcases hout.own x (List.mem_of_getElem? hx) b hb with h | h | ⟨y,hy,_,hyb⟩
        · omega
        · exact .inr h
        · exact .inl ⟨y,hy,hyb⟩
     have ownB:∀ nm r b,(nm,r)∈L'→bk (θR nm) =some b→X.mine b∨(r < 64∧X.wr b):=by
      intro nm r b h hb
      obtain ⟨i,x,hx,hxn,hi,hor⟩:=hLmem nm r h
      rcases hor with ⟨hl,h1,h2⟩ | ⟨hl,h1,h2⟩
      · rw [hout.fix nm h2,hθc r nm h1] at hb
        exact hm.own r b (hi3 _ h1) hb
      · subst hxn
        rcases hout.own x (List.mem_of_getElem? hx) b hb with h | h | h
        · omega
        · exact .inl (.inl (by omega))
        · obtain ⟨r',_,_,_,h4⟩:=hS2 b h
          exact .inl h4
     have hm3:=inv3.mem
     have hget:∀ k,k∈L'.map (·.2)→∃ nm b,(nm,k)∈L'∧(nm,b)∈outs∧(putL L' L' outs (newL d (unz L) 0 outs (drpL (L.map (·.1)) σ))).m k=some (mapB L' b):=by
      intro k hk
      obtain ⟨⟨nm,k'⟩,h1,rfl⟩:=List.mem_map.1 hk
      obtain ⟨i,x,hx,hxn,hi,_⟩:=hLmem nm k' h1
      have:=putL_at (L:=L') L' outs (newL d (unz L) 0 outs (drpL (L.map (·.1)) σ)) i _ x hidn hi hx
      refine ⟨nm,x.2,h1,?_,this⟩
      rw [← hxn]; exact List.mem_of_getElem? hx
     have hm4:Mem X Z2 w' θ3 (putL L' L' outs (newL d (unz L) 0 outs (drpL (L.map (·.1)) σ))).m:=by
      refine ⟨?_,?_,?_,hm3.zlt,hm3.frame,hm3.zin,hm3.znew,hm3.fix,hm3.glb⟩
      · intro k blk hk
        by_cases hkL:k∈L'.map (·.2)
        · obtain ⟨nm,b,h1,h2,h3⟩:=hget k hkL
          rw [h3] at hk; cases hk
          exact mapB_brep hθ3' (hout.rep (nm,b) h2) (hθ3 nm k h1)
        · rw [Zy0 _ _ _ k hkL] at hk
          exact hm3.brep k blk hk
      · intro k k' b h1 h2 h3 h4
        by_cases hkL:k∈L'.map (·.2)<;>by_cases hkL':k'∈L'.map (·.2)
        · obtain ⟨nm,b1,e1,e2,_⟩:=hget k hkL
          obtain ⟨nm',b2,e1',e2',_⟩:=hget k' hkL'
          rw [hθ3 nm k e1] at h3
          rw [hθ3 nm' k' e1'] at h4
          have hnm:=hout.dis (nm,b1) e2 (nm',b2) e2' b h3 h4
          simp only at hnm
          subst hnm
          exact pair_inj (by rw [hL1]; exact hnd) e1 e1'
        · obtain ⟨nm,b1,e1,e2,_⟩:=hget k hkL
          rw [Zy0 _ _ _ k' hkL'] at h2
          obtain ⟨f1,f2,f3⟩:=hold3 k' h2
          rw [hθ3 nm k e1] at h3
          rw [f3] at h4
          rcases outB nm k b e1 h3 with h | h
          · exact absurd h (apart k' b f1 f2 h4)
          · obtain ⟨blk,hblk⟩:=Option.isSome_iff_exists.1 f2
            have:=hm.lt hblk h4; omega
        · obtain ⟨nm,b1,e1,e2,_⟩:=hget k' hkL'
          rw [Zy0 _ _ _ k hkL] at h1
          obtain ⟨f1,f2,f3⟩:=hold3 k h1
          rw [hθ3 nm k' e1] at h4
          rw [f3] at h3
          rcases outB nm k' b e1 h4 with h | h
          · exact absurd h (apart k b f1 f2 h3)
          · obtain ⟨blk,hblk⟩:=Option.isSome_iff_exists.1 f2
            have:=hm.lt hblk h3; omega
        · rw [Zy0 _ _ _ k hkL] at h1
          rw [Zy0 _ _ _ k' hkL'] at h2
          exact hm3.disj k k' b h1 h2 h3 h4
      · intro k b h1 h2
        by_cases hkL:k∈L'.map (·.2)
        · obtain ⟨nm,b1,e1,e2,_⟩:=hget k hkL
          rw [hθ3 nm k e1] at h2
          exact ownB nm k b e1 h2
        · rw [Zy0 _ _ _ k hkL] at h1
          exact hm3.own k b h1 h2
     have inv4:Inv X N G Z2 w' θ3 W ⟨(newL d (unz L) 0 outs (drpL (L.map (·.1)) σ)).s,(putL L' L' outs (newL d (unz L) 0 outs (drpL (L.map (·.1)) σ))).m⟩ a.tmps:=inv3.stepped (.refl _ _) hm4
     have hval:=mapA2_rep (L:=L') hθ3' hrep
     have inv5:=Inv.put (a:=a) inv4 hdW hdN (r:=⟨[],[],mapA2 L' rv,[],none,[]⟩) (v:=v) ⟨hval,.refl _ _,λ_ _=>rfl,inv4.mem,by simp⟩
     refine hK v Z2 w' θ3 _ hk ?_
     have e:putG d (mapA2 L' rv) (putL L' L' outs (newL d (unz L) 0 outs (drpL (L.map (·.1)) σ))) =(⟨(newL d (unz L) 0 outs (drpL (L.map (·.1)) σ)).s,(putL L' L' outs (newL d (unz L) 0 outs (drpL (L.map (·.1)) σ))).m⟩:St).put (some d) ⟨[],[],mapA2 L' rv,[],none,[]⟩:=by
      simp only [putG,St.put,updL,putL_s]
     rw [e]
     exact inv5
def XCof (Φ:Nat→Option Ctr)(f:Nat)(C:XC):Prop:=
 (∃ st ι fn,Φ f=some (.ext st ι fn)∧C= .ext st ι fn)∨(∃ ι ho fz fn,Φ f=some (.gr ι ho fz fn)∧C= .gr ι ho fz fn)
theorem extOf_inv {Φ:Nat→Option Ctr} {dst:Option Nat} {io:IOp} {g:Option (Nat×Bool)} {af:List Nat} {d:Nat} {xs:List A} {C:XC}(h:extOf Φ ⟨dst,io,g,af⟩ =some (d,xs,C)):∃ f,dst=some d∧io= .call f xs∧g=none∧XCof Φ f C:=by
 unfold extOf at h
 split at h<;>try (cases h; done)
 rename_i d' f xs' af' he
 simp only [RO.mk.injEq] at he
 obtain ⟨h1,h2,h3,_⟩:=he
 split at h<;>try (cases h; done)
 · rename_i hΦf
   simp only [sI,Prod.mk.injEq] at h
   obtain ⟨rfl,rfl,rfl⟩:=h
   exact ⟨f,h1,h2,h3,.inl ⟨_,_,_,hΦf,rfl⟩⟩
 · rename_i hΦf
   simp only [sI,Prod.mk.injEq] at h
   obtain ⟨rfl,rfl,rfl⟩:=h
   exact ⟨f,h1,h2,h3,.inr ⟨_,_,_,_,hΦf,rfl⟩⟩
theorem evXK_sound {Φ:Nat→Option Ctr}(hΦ:∀ f C,Φ f=some C→Sound P f C) {o:Oper} {f d:Nat} {xs:List A} {C:XC}(hC:XCof Φ f C)(inv:Inv X N G Z w θ W σ a.tmps)(hod:o.dst=some d)(hdW:d∉W)(hdN:d < N)
 {c:Call} (ho:o.op= .call c) (hcv:c.callee= .value (.func f)) (hargs:compAs c.args.toList=some xs) {fn':Func} (hfn:P.funcs[f]? =some fn') (hb1:fn'.body.isSome=true) (hb2:(fn'.name == "runtime.NumGoroutine") =false)
 {K:St→Prop} (hev:evXK C d xs σ K) {K':Act→World→Prop} {Q:Exit→Act→World→Prop} (hK:∀ v Z' w' θ' σ',K σ'→Inv X N G Z' w' θ' (d::W) σ' (a.tmps.setIfInBounds d v)→K' (a.put (some d) v) w'):o.wp P a w K' Q:=by
 rcases hC with ⟨st,ι,fn,hΦf,rfl⟩ | ⟨ι,ho',fz,fn,hΦf,rfl⟩
 · simp only [evXK] at hev
   cases hvs:avs σ [] xs with
   | none=>rw [hvs] at hev; exact hev.elim
   | some vs=>
     rw [hvs] at hev
     have hreps:=Zf0 inv.slot (p:=[]) (by intro q hq; cases hq) hargs hvs
     exact evX_sound (hΦ _ _ hΦf) inv hod hdW hdN (run_call ho hcv hfn hb1 hb2) (vs:=vs) (by simpa using hreps) hev hK
 · simp only [evXK] at hev
   obtain ⟨Z1,inv1⟩:∃ Z1,Inv X N G Z1 w θ W (frzF fz xs σ) a.tmps:=by
    cases fz with
    | true=>obtain ⟨Z1,_,h⟩:=inv.frzLAny (argF σ xs); exact ⟨Z1,h⟩
    | false=>exact ⟨Z,inv⟩
   generalize frzF fz xs σ=σ1 at hev inv1
   simp only [evGX] at hev
   cases hvs:avs σ1 [] xs with
   | none=>rw [hvs] at hev; exact hev.elim
   | some vs=>
     rw [hvs] at hev
     have hreps:=Zf0 inv1.slot (p:=[]) (by intro q hq; cases hq) hargs hvs
     exact evGE_sound (hΦ _ _ hΦf) inv1 hod hdW hdN (run_call ho hcv hfn hb1 hb2) (vs:=vs) (by simpa using hreps) hev hK
end
end
end Go.Ev
namespace Go.Ev
open Go Go.RowKit
variable {P:Program} {X:Cx} {N:Nat}
def Ent (es:List (Int×Int))(E:List MapEntry):Prop:=E.map (λe=>(e.key,e.val)) =es.map (λp=>(Value.int .u8 p.1,Value.int .i64 p.2))
theorem fn_ent (n:Int):∀ (es:List (Int×Int))(E:List MapEntry)(i:Nat),Ent es E→
 (n∉es.map (·.1)→Instr.findNow (.int .u8) (.int .u8 n) E i=some none∧lookI n es=0)∧(n∈es.map (·.1)→∃ j,Instr.findNow (.int .u8) (.int .u8 n) E i=some (some (j,.int .i64 (lookI n es))))
 | [],[],i,_=>⟨λ_=>⟨rfl,rfl⟩,λh=>by simp at h⟩
 | [],e::E,i,h=>by simp [Ent] at h
 | p::es,[],i,h=>by simp [Ent] at h
 | (k, v)::es,e::E,i,h=>by
   simp only [Ent,List.map_cons,List.cons.injEq,Prod.mk.injEq] at h
   obtain ⟨⟨h1,h2⟩,h3⟩:=h
   obtain ⟨r1,r2⟩:=fn_ent n es E (i+1) h3
   by_cases hk:n=k
   · subst hk
     refine ⟨λhn=>absurd (by simp) hn,λ_=>⟨i,?_⟩⟩
     simp [Instr.findNow,Instr.sameNow,h1,h2,lookI]
   · have hnk:(n == k) =false:=by simpa using hk
     refine ⟨λhn=>?_,λhn=>?_⟩
     · obtain ⟨q1,q2⟩:=r1 (λhm=>hn (by simp only [List.map_cons,List.mem_cons]; exact .inr hm))
       refine ⟨?_,by simp [lookI,hk,q2]⟩
       simp only [Instr.findNow,Instr.sameNow,h1,hnk,q1,if_true]
     · simp only [List.map_cons,List.mem_cons] at hn
       obtain ⟨j,hj⟩:=r2 (hn.resolve_left hk)
       refine ⟨j,?_⟩
       simp only [Instr.findNow,Instr.sameNow,h1,hnk,hj,lookI,if_neg hk,if_true]
section
variable {mty kt et:TypeId} {w:World} {r clock:Nat} {E:Array MapEntry}
theorem run_ins (hm:P.underlying mty=some (.map kt et))(hk:P.underlying kt=some (.int .u8))(hb:w.heap[r]? =some (.map E clock))(k:Int)(val:Value)(hn:Instr.findNow (.int .u8) (.int .u8 k) E.toList 0=some none):
 (Instr.mapUpdate mty (.map (some r)) (.int .u8 k) val).run P w= .ok () {w with heap:=w.heap.setIfInBounds r (.map (E.push {key:= .int .u8 k,val:=val,born:=clock}) (clock+1))}:=by
 have hc:(Instr.checkKey false 10000 kt (.int .u8 k)).run P w= .ok () w:=MapKept.run_checkKey (k:= .int .u8 k) hk (by simp [MapKept.IsKey]) false 9999
 simp [Instr.mapUpdate,run_underlying hm,MapKept.run_getObj_map hb,hc,MapKept.run_findKey hk hn,MapKept.run_setObj_map _ hb,Result.andThen]
theorem run_look (hm:P.underlying mty=some (.map kt et))(hk:P.underlying kt=some (.int .u8))(hz:(P.info? et).bind (·.zero) =some (.int .i64 0))(hb:w.heap[r]? =some (.map E clock)) {es:List (Int×Int)}(he:Ent es E.toList)(n:Int):
 (Instr.lookup mty (.map (some r)) (.int .u8 n) false).run P w= .ok (.int .i64 (lookI n es)) w:=by
 have hc:(Instr.checkKey E.isEmpty 10000 kt (.int .u8 n)).run P w= .ok () w:=MapKept.run_checkKey (k:= .int .u8 n) hk (by simp [MapKept.IsKey]) _ 9999
 have hz':(zeroValue et).run P w= .ok (.int .i64 0) w:=by
  obtain ⟨i,hi,hz⟩:=Option.bind_eq_some_iff.1 hz
  simp [zeroValue,run_typeInfo w hi,hz]
 obtain ⟨h1,h2⟩:=fn_ent n es E.toList 0 he
 by_cases hn:n∈es.map (·.1)
 · obtain ⟨j,hj⟩:=h2 hn
   simp [Instr.lookup,run_underlying hm,MapKept.run_getObj_map hb,hc,MapKept.run_findKey hk hj,Result.andThen]
 · obtain ⟨q1,q2⟩:=h1 hn
   simp [Instr.lookup,run_underlying hm,MapKept.run_getObj_map hb,hc,MapKept.run_findKey hk q1,hz',Result.andThen,q2]
end
structure Bsd (w w':World):Prop where
 os:w'.os=w.os
 tape:w'.tape=w.tape
 output:w'.output=w.output
 size:w'.heap.size=w.heap.size+1
 blocks:∀ k,k < w.heap.size→w'.heap[k]? =w.heap[k]?
theorem mapIns_ok {ops:Array Oper} {Q:Exit→Act→World→Prop} {mty kt et:TypeId} {m:Nat} {w0:World}(hm:P.underlying mty=some (.map kt et))(hk:P.underlying kt=some (.int .u8)):
 ∀ (l:List Oper) (pre:List (Int×Int)) (E:Array MapEntry) (clock:Nat) (a:Act) (w:World),a.eval (.tmp m) = .map (some w0.heap.size)→w.heap[w0.heap.size]? =some (.map E clock)→Ent pre E.toList→Bsd w0 w→((pre ++ (mapIns m mty l).1).map (·.1)).Nodup→
   (∀ (w':World) (E':Array MapEntry) (clock':Nat),w'.heap[w0.heap.size]? =some (.map E' clock')→Ent (pre ++ (mapIns m mty l).1) E'.toList→Bsd w0 w'→wpList P ops Q (mapIns m mty l).2 a w')→wpList P ops Q l a w
 | [],pre,E,clock,a,w,ha,hb,he,hw,hnd,hQ=>by
   have:=hQ w E clock hb (by simpa [mapIns] using he) hw
   simpa [mapIns] using this
 | o :: l, pre,E,clock,a,w,ha,hb,he,hw,hnd,hQ=>by
   unfold mapIns at hnd hQ
   split at hnd
   · rename_i T' m' k v hd ho hg
     split at hnd
     · rename_i hc
       obtain ⟨rfl,rfl⟩:=hc
       simp only [hd,ho,hg,and_self,if_true] at hQ
       refine wpList_plain hg λK hK=>?_
       have hkn:k∉pre.map (·.1):=by
        intro hmem
        rw [List.map_append,List.nodup_append] at hnd
        exact hnd.2.2 k hmem k (by simp) rfl
       obtain ⟨q1,_⟩:=(fn_ent k pre E.toList 0 he).1 hkn
       refine wp_skip_op (w':={w with heap:=w.heap.setIfInBounds w0.heap.size (.map (E.push {key:= .int .u8 k,val:= .int .i64 v,born:=clock}) (clock+1))}) ?_ ?_
       · have hr:=run_ins hm hk hb k (.int .i64 v) q1
         have hev:a.eval (.const (.int .u8 k)) = .int .u8 k:=rfl
         have hev2:a.eval (.const (.int .i64 v)) = .int .i64 v:=rfl
         simp [execOp,ho,ha,hev,hev2,hr]
       · rw [hd]
         refine hK _ _ ?_
         have hlt:w0.heap.size < w.heap.size:=(Array.getElem?_eq_some_iff.1 hb).1
         refine mapIns_ok hm hk l (pre ++ [(k,v)]) (E.push {key:= .int .u8 k,val:= .int .i64 v,born:=clock}) (clock+1) a _ ha (by simp [hlt]) ?_ ⟨hw.os,hw.tape,hw.output,by simpa using hw.size,λj hj=>?_⟩ (by simpa using hnd) ?_
         · simp only [Ent,Array.toList_push,List.map_append,List.map_cons,List.map_nil] at he ⊢
           rw [he]
         · simp only
           rw [Array.getElem?_setIfInBounds,if_neg (by omega)]
           exact hw.blocks j hj
         · intro w' E' clock' h1 h2 h3
           exact hQ w' E' clock' h1 (by simpa using h2) h3
     · rename_i hc
       simp only [hd,ho,hg,if_neg hc] at hQ
       exact hQ w E clock hb (by simpa using he) hw
   · rename_i hne
     split at hQ
     · rename_i T' m' k v hd ho hg
       exact absurd hg (hne _ _ _ _ hd ho)
     · exact hQ w E clock hb (by simpa using he) hw
theorem Inv.bsd {G:Prop} {Z:Nat→Prop} {w w':World} {θ:Nat→Value} {W:List Nat} {σ:St} {tm:Array Value}(h:Inv X N G Z w θ W σ tm)(hb:Bsd w w'):Inv X N G Z w' θ W σ tm:=by
 obtain ⟨hm,hg⟩:=h.mem.stepW none (λ_ h=>h) (λ_ h=> .inl h) (λb hz=>by have:=h.mem.zlt b hz; have:=hb.size; omega) hb.os hb.tape hb.output (by have:=hb.size; omega) (λk hk _=>hb.blocks k hk) (λ_ _=>rfl) (by simp)
 exact ⟨λk=>(h.slot k).goes hg (λ_=>rfl) (λ_ _ _=>Iff.rfl),hm,h.path,h.nog,h.size⟩
theorem Inv.pv {Z:Nat→Prop} {w:World} {θ:Nat→Value} {σ:St} {a:Act}(inv:Inv X N False Z w θ [] σ a.tmps) {d:Nat}(hd:d < N) {x:AV} {v:Value}(hv:Rep Z w θ x v):Inv X N False Z w θ [] ⟨upd σ.s d x,σ.m⟩ (a.put (some d) v).tmps:=by
 have hi:=inv.put (d:=d) (by simp) hd (r:=⟨[],[],x,[],none,[]⟩) (v:=v) ⟨hv,.refl _ _,λ_ _=>rfl,inv.mem,by simp⟩
 exact ⟨hi.slot,hi.mem,λk q y e=>absurd e ((hi.nog.resolve_left _root_.id) k q y),hi.nog,hi.size⟩
theorem Zo0 {a:Act} {d:Nat} {v:Value}(h:d < a.tmps.size):(a.put (some d) v).eval (.tmp d) =v:=by
 simp [Act.put,Act.eval,h]
theorem size_put {a:Act} {d:Nat} {v:Value}:(a.put (some d) v).tmps.size=a.tmps.size:=by simp [Act.put]
theorem int_of_ar {Z:Nat→Prop} {w:World} {θ:Nat→Value} {σ:St} {a:Act}(inv:Inv X N False Z w θ [] σ a.tmps) {x:A} {x0:Operand}(hc:compA x0=some x) {q:IntKind} {n:Int}(h:ar σ x= .int q n):a.eval x0= .int q n:=by
 have:=av_rep (p:=[]) inv.slot (by intro q hq; cases hq) hc (y:=ar σ x) (by
  show gv [] (ar σ x) =some (ar σ x)
  rw [h]; rfl)
 rw [h] at this
 generalize a.eval x0=v at this ⊢
 cases this
 rfl
theorem mreg_sound {ops:Array Oper} {Q:Exit→Act→World→Prop} {K:Exit→St→Prop} {Φ:Nat→Option Ctr} {I:Nat→LI} {l:List Oper} {rc:RC}(hc:compM P N l=some rc) {σ:St} {a:Act} {w:World}(hev:evC Φ I rc σ K)(hb:BInv X N σ a w)
 (hQ:∀ e σ' a' w',K e σ'→BInv X N σ' a' w'→Q e a' w'):wpList P ops Q l a w:=by
 unfold compM at hc
 split at hc<;>try (cases hc; done)
 rename_i o0 rest
 split at hc<;>try (cases hc; done)
 rename_i m T hd0 ho0 hg0
 split at hc<;>try (cases hc; done)
 rename_i o1 o2 o3 o4 hins
 unfold compM2 at hc
 split at hc<;>try (cases hc; done)
 rename_i sa m' hd1 ho1 hg1
 split at hc<;>try (cases hc; done)
 rename_i sb x0 hd2 ho2 hg2
 split at hc<;>try (cases hc; done)
 rename_i sc T' a' b' hd3 ho3 hg3
 split at hc<;>try (cases hc; done)
 rename_i sd c' hd4 ho4 hg4
 split at hc<;>try (cases hc; done)
 rename_i x kt et hx hT
 split at hc<;>try (cases hc; done)
 rename_i hkt hz
 split at hc<;>try (cases hc; done)
 rename_i hcond
 obtain ⟨rfl,rfl,rfl,rfl,rfl,hnd,hmN,haN,hbN,hcN,hdN,hab⟩:=hcond
 cases hc
 have hmN:@LT.lt Nat instLTNat m' N:=hmN
 have haN:@LT.lt Nat instLTNat a' N:=haN
 have hbN:@LT.lt Nat instLTNat b' N:=hbN
 have hcN:@LT.lt Nat instLTNat c' N:=hcN
 simp only [evC] at hev
 unfold mregS at hev
 split at hev<;>try (exact hev.elim)
 rename_i n hxn
 obtain ⟨Z,θ,hs,hm,hsz,hdf⟩:=hb
 have inv:Inv X N False Z w θ [] σ a.tmps:=⟨λk=> .of_rep (hs k),hm,λk q y h=>absurd h (Qt0 (hs k) q y),.inr λk q y=>Qt0 (hs k) q y,hsz⟩
 refine wpList_plain hg0 λK0 hK0=>Qo0 (v:= .map (some w.heap.size)) (w':=w.alloc (.map #[] 0)) ?_ ?_
 · simp [execOp,ho0,run_makeMap_plain]
 rw [hd0]
 refine hK0 _ _ ?_
 have hsz1:(World.alloc w (.map #[] 0)).heap.size=w.heap.size+1:=World.size_alloc ..
 refine mapIns_ok (w0:=w) hT hkt rest [] #[] 0 _ _ (Zo0 (by omega)) ?_ (by simp [Ent]) ⟨rfl,rfl,rfl,hsz1,λk hk=>Zn0 w _ k hk⟩ (by simpa using hnd) ?_
 · show (w.heap.push _)[w.heap.size]? =_
   simp
 intro w' E' clk hb' he' hw'
 rw [hins]
 have i1:=(inv.bsd hw').pv (a:=a) hmN (x:= .junk) (v:= .map (some w.heap.size)) (.junk _ _)
 have e1:(a.put (some m') (.map (some w.heap.size))).eval (.tmp m') = .map (some w.heap.size):=Zo0 (by omega)
 generalize ha1:a.put (some m') (.map (some w.heap.size)) =a1 at i1 e1 ⊢
 have hs1:a1.tmps.size=N:=by rw [← ha1,size_put,hsz]
 have hf1:a1.defers= []:=by rw [← ha1]; exact hdf
 refine wpList_plain hg1 λK1 hK1=>Qo0 (v:= .map (some w.heap.size)) (w':=w') (by simp [execOp,ho1,e1]) ?_
 rw [hd1]
 refine hK1 _ _ ?_
 have i2:=i1.pv (a:=a1) haN (x:= .junk) (v:= .map (some w.heap.size)) (.junk _ _)
 have e2:(a1.put (some a') (.map (some w.heap.size))).eval (.tmp a') = .map (some w.heap.size):=Zo0 (by omega)
 generalize ha2:a1.put (some a') (.map (some w.heap.size)) =a2 at i2 e2 ⊢
 have hs2:a2.tmps.size=N:=by rw [← ha2,size_put,hs1]
 have hf2:a2.defers= []:=by rw [← ha2]; exact hf1
 have ex:a2.eval x0= .int .u8 n:=int_of_ar i2 hx hxn
 refine wpList_plain hg2 λK2 hK2=>Qo0 (v:= .int .u8 n) (w':=w') (by simp [execOp,ho2,ex]) ?_
 rw [hd2]
 refine hK2 _ _ ?_
 have i3:=i2.pv (a:=a2) hbN (x:= .int .u8 n) (v:= .int .u8 n) (.int _ _ _)
 have e3:(a2.put (some b') (.int .u8 n)).eval (.tmp b') = .int .u8 n:=Zo0 (by omega)
 have e3':(a2.put (some b') (.int .u8 n)).eval (.tmp a') = .map (some w.heap.size):=by
  rw [Act.eval_put (by intro d hd; cases hd; intro h; cases h; exact hab rfl)]; exact e2
 generalize ha3:a2.put (some b') (.int .u8 n) =a3 at i3 e3 e3' ⊢
 have hs3:a3.tmps.size=N:=by rw [← ha3,size_put,hs2]
 have hf3:a3.defers= []:=by rw [← ha3]; exact hf2
 refine wpList_plain hg3 λK3 hK3=>Qo0 (v:= .int .i64 (lookI n (mapIns m' T' rest).1)) (w':=w') ?_ ?_
 · simp [execOp,ho3,e3,e3',run_look hT hkt hz hb' he']
 rw [hd3]
 refine hK3 _ _ ?_
 have i4:=i3.pv (a:=a3) hcN (x:= .int .i64 (lookI n (mapIns m' T' rest).1)) (v:= .int .i64 (lookI n (mapIns m' T' rest).1)) (.int _ _ _)
 have e4:(a3.put (some c') (.int .i64 (lookI n (mapIns m' T' rest).1))).eval (.tmp c') = .int .i64 (lookI n (mapIns m' T' rest).1):=Zo0 (by omega)
 generalize ha4:a3.put (some c') (.int .i64 (lookI n (mapIns m' T' rest).1)) =a4 at i4 e4 ⊢
 have hs4:a4.tmps.size=N:=by rw [← ha4,size_put,hs3]
 have hf4:a4.defers= []:=by rw [← ha4]; exact hf3
 refine wpList_plain hg4 λK4 hK4=>Qo0 (v:= .int .i64 (lookI n (mapIns m' T' rest).1)) (w':=w') (by simp [execOp,ho4,e4]) ?_
 rw [hd4]
 refine hK4 _ _ ?_
 have i5:=i4.pv (a:=a4) hdN (x:= .int .i64 (lookI n (mapIns m' T' rest).1)) (v:= .int .i64 (lookI n (mapIns m' T' rest).1)) (.int _ _ _)
 exact hQ _ _ _ _ hev (i5.binv hf4)
theorem compM_mreg {l:List Oper} {rc:RC}(hc:compM P N l=some rc):∃ m es a b x c d,rc= .mreg m es a b x c d:=by
 unfold compM at hc
 split at hc<;>try (cases hc; done)
 split at hc<;>try (cases hc; done)
 split at hc<;>try (cases hc; done)
 unfold compM2 at hc
 split at hc<;>try (cases hc; done)
 split at hc<;>try (cases hc; done)
 split at hc<;>try (cases hc; done)
 split at hc<;>try (cases hc; done)
 split at hc<;>try (cases hc; done)
 split at hc<;>try (cases hc; done)
 split at hc<;>try (cases hc; done)
 cases hc
 exact ⟨_,_,_,_,_,_,_,rfl⟩
end Go.Ev
