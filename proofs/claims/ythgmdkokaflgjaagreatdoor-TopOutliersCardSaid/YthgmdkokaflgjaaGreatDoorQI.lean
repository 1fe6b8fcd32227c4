/- Laws TopOutliers and TopGaps: proved as their cards say them: for any dice, readings and samples, within the laid value of event.offsets; no other condition. -/
import Derived.Test.YthgmdkokaflgjaaGreatDoorQE
import Derived.Test.YthgmdkokaflgjaaGreatDoorQH
import Derived.Test.YthgmdkokaflgjaaGreatDoorRows
import Derived.Test.YthgmdkokaflgjaaGreatDoorTie
import Derived.Test.YthgmdkokaflgjaaGreatDoorCards
import Derived.ProofKit
import Derived.LaidMore
import Derived.OpenShut
import Derived.SevenTiedAt
set_option linter.unusedSimpArgs false
set_option linter.unusedVariables false
set_option linter.unusedSectionVars false
namespace Go.Proofs.YthgmdkokaflgjaaGreatDoor
open Go Go.RowKit Go.Ev
set_option maxRecDepth 20000
set_option maxHeartbeats 4000000
variable {Phi:Nat→Option Ctr}
theorem s6:Sound Tryz.prog 6 CFst:=Qc0 (by kernel_rfl) (Qa0 s11 (Qa0 s12 (Qa0 s17 (Qa0 s18 (Qa0 s23 (Qa0 s24 Qb0)))))) Tryz.func6 rfl rc6_ok rv6_ok (by
 intro xs q r cs' h hq
 split at h
 · cases h
   exact ⟨noI,rfl,Nat.le_of_ble_eq_true rfl,walk6 rfl rfl rfl rfl rfl rfl⟩
 · cases h
 )
namespace Dice
open Go.ChangeShapes Go.WideShapes Go.ChangeAt Go.RowKit
abbrev laidL:List (String×DataW Unit):=[("baseboard/event.offsets",Rows.laid_baseboard_event_offsets)]
theorem gOff:Tryz.prog.globalNamed "baseboard/event.offsets" =some 0:=by kernel_rfl
theorem tOff:(Tryz.prog.globals[0]?).map (·.type) =some 31:=by kernel_rfl
theorem door_met (os:Os)(args:Array Value):laidMetH Tryz.prog laidL ((World.doorLaid Tryz.prog 400 os).forCall (λ_ _=>0) ⟨#[],args,[]⟩).memory:=
 laidMetH_of_parts3 (fuel:=8) (laidMet_of_run' 8 (by kernel_rfl) (by kernel_rfl)) (by kernel_rfl) (by kernel_rfl)
theorem cells6 {l:List Value}(h:l.length=6) {a:Nat→Int}(hc:∀ i,i < 6→(l.drop (i * 1)).take 1= [.int .u8 (a i)]):l= [.int .u8 (a 0),.int .u8 (a 1),.int .u8 (a 2),.int .u8 (a 3),.int .u8 (a 4),.int .u8 (a 5)]:=by
 match l,h with
 | [x0,x1,x2,x3,x4,x5],_=>
   have h0:=hc 0 (by decide)
   have h1:=hc 1 (by decide)
   have h2:=hc 2 (by decide)
   have h3:=hc 3 (by decide)
   have h4:=hc 4 (by decide)
   have h5:=hc 5 (by decide)
   simp at h0 h1 h2 h3 h4 h5
   simp [h0,h1,h2,h3,h4,h5]
theorem of_laid {W:World}(h:laidMetH Tryz.prog laidL W):Glb (λb=>b < W.heap.size) W:=by
 rw [MakeChecks.laidMetH_plain _ _ _ (by kernel_rfl)] at h
 obtain ⟨ps,⟨g0,t0,cs0,f0,p0,q0,hg0,ht0,hv0,hd0,_,_⟩,_,_⟩:=h
 obtain rfl:=Option.some.inj (gOff.symm.trans hg0)
 obtain rfl:=Option.some.inj (tOff.symm.trans ht0)
 obtain ⟨xs,m1,rfl,hx1,hlen,hn6,hel⟩:=DataW.trod_array Tryz.underlying31 hd0
 have c5:Tryz.prog.cellsOf 5=1:=by kernel_rfl
 have c31:Tryz.prog.cellsOf 31=6:=by kernel_rfl
 rw [c5] at hel
 rw [c31] at hlen
 simp only [Prod.mk.injEq] at hx1
 have hx2:xs.map (·.1) = [.lit (.int .u8 0),.lit (.int .u8 2),.lit (.int .u8 4),.lit (.int .u8 7),.lit (.int .u8 9),.lit (.int .u8 11)]:=by
  have:=hx1.1
  simp only [Rows.laid_baseboard_event_offsets,DataW.agg.injEq] at this
  exact this.symm
 have key:∀ i,i < 6→(cs0.toList.drop (i * 1)).take 1= [Value.int .u8 ([0,2,4,7,9,11].getD i 0)]:=by
  intro i hi
  have hi':i < xs.length:=by omega
  have he:=hel i hi
  rw [List.getElem?_eq_getElem hi'] at he
  obtain ⟨n,e1,e2,_⟩:=DataW.trod_int Tryz.underlying5 he
  rw [e1]
  have e3:(xs.map (·.1))[i]? =some (.lit (.int .u8 n)):=by rw [List.getElem?_map,List.getElem?_eq_getElem hi',e2]; rfl
  rw [hx2] at e3
  match i,hi,e3 with
  | 0,_,e3=>simp at e3; simp [e3]
  | 1,_,e3=>simp at e3; simp [e3]
  | 2,_,e3=>simp at e3; simp [e3]
  | 3,_,e3=>simp at e3; simp [e3]
  | 4,_,e3=>simp at e3; simp [e3]
  | 5,_,e3=>simp at e3; simp [e3]
 have hcs:=cells6 hlen key
 unfold World.var? at hv0
 rw [gOff] at hv0
 simp only [Option.bind_some] at hv0
 split at hv0
 · rename_i cs T s hh
   simp only [sI] at hv0
   subst hv0
   obtain ⟨l⟩:=cs
   dsimp only at hcs
   refine ⟨(Array.getElem?_eq_some_iff.1 hh).1,T,s,?_⟩
   rw [hh,hcs]
   rfl
 · cases hv0
end Dice
theorem So.of_pw {sg:Bool} {M:List Int}(h:M.Pairwise (λa b=>num sg a≤num sg b)):So sg M M.length:=by
 rw [List.pairwise_iff_getElem] at h
 intro a b hab hb
 have:=h a b (by omega) hb hab
 unfold nm'
 rw [List.getD_eq_getElem?_getD,List.getD_eq_getElem?_getD,List.getElem?_eq_getElem hb,List.getElem?_eq_getElem (by omega:a < M.length)]
 exact this
theorem SP_ex (sg:Bool)(L:List Int):∃ M,SP sg L M:=by
 refine ⟨L.mergeSort (λa b=>decide (num sg a≤num sg b)),List.mergeSort_perm _ _,So.of_pw ?_⟩
 have h:=List.pairwise_mergeSort (le:=λa b=>decide (num sg a≤num sg b)) (λa b c h1 h2=>by
  simp only [decide_eq_true_eq] at *; omega) (λa b=>by
  simp only [Bool.or_eq_true,decide_eq_true_eq]; omega) L
 exact h.imp (λh=>of_decide_eq_true h)
theorem cnt_all {p:Int→Bool} {l:List Int}(h:∀ x∈l,p x=true):l.countP p=l.length:=List.countP_eq_length.2 h
theorem med_st {sg:Bool} {L:List Int} {x:Int}(hL:Byt L)(hx:0≤x∧x≤255)(h:2 * L.countP (λy=>!decide (y=x)) < L.length):med sg L=x:=by
 obtain ⟨M,hM⟩:=SP_ex sg L
 rw [med_eq hL hM]
 have hlen:=hM.1.length_eq
 have hc:=hM.1.countP_eq (λy=>!decide (y=x))
 have hpos:M.length / 2 < M.length:=by omega
 have hin:M.getD (M.length / 2) 0∈M:=by
  rw [List.getD_eq_getElem?_getD,List.getElem?_eq_getElem hpos]
  exact List.getElem_mem hpos
 have hb:=hL _ (hM.1.subset hin)
 refine num_inj (sg:=sg) hb hx ?_
 rcases Int.lt_trichotomy (num sg (M.getD (M.length / 2) 0)) (num sg x) with hlt | he | hgt
 · exfalso
   have h1:(M.take (M.length / 2+1)).countP (λy=>!decide (y=x)) =(M.take (M.length / 2+1)).length:=by
    refine cnt_all (λy hy=>?_)
    obtain ⟨i,hi,rfl⟩:=List.getElem_of_mem hy
    rw [List.length_take] at hi
    rw [List.getElem_take]
    have hle:nm' sg M i≤nm' sg M (M.length / 2):=by
     by_cases e:i=M.length / 2
     · rw [e]; exact Int.le_refl _
     · exact hM.2 i _ (by omega) hpos
    unfold nm' at hle
    rw [List.getD_eq_getElem?_getD,List.getElem?_eq_getElem (by omega:i < M.length)] at hle
    simp only [Option.getD_some] at hle
    simp only [Bool.not_eq_true',decide_eq_false_iff_not]
    intro e
    rw [e] at hle
    omega
   have h2:M.countP (λy=>!decide (y=x)) =(M.take (M.length / 2+1)).countP (λy=>!decide (y=x))+(M.drop (M.length / 2+1)).countP (λy=>!decide (y=x)):=by
    rw [← List.countP_append,List.take_append_drop]
   rw [List.length_take] at h1
   omega
 · exact he
 · exfalso
   have h1:(M.drop (M.length / 2)).countP (λy=>!decide (y=x)) =(M.drop (M.length / 2)).length:=by
    refine cnt_all (λy hy=>?_)
    obtain ⟨i,hi,rfl⟩:=List.getElem_of_mem hy
    rw [List.length_drop] at hi
    rw [List.getElem_drop]
    have hle:nm' sg M (M.length / 2)≤nm' sg M (M.length / 2+i):=by
     by_cases e:i=0
     · rw [e]; exact Int.le_refl _
     · exact hM.2 _ _ (by omega) (by omega)
    unfold nm' at hle
    rw [show M.getD (M.length / 2+i) 0=M[M.length / 2+i]'(by omega) by rw [List.getD_eq_getElem?_getD,List.getElem?_eq_getElem (by omega)]; rfl] at hle
    simp only [Bool.not_eq_true',decide_eq_false_iff_not]
    intro e
    rw [e] at hle
    omega
   have h2:M.countP (λy=>!decide (y=x)) =(M.take (M.length / 2)).countP (λy=>!decide (y=x))+(M.drop (M.length / 2)).countP (λy=>!decide (y=x)):=by
    rw [← List.countP_append,List.take_append_drop]
   rw [List.length_drop] at h1
   omega
theorem bI (op:BinOp)(f:BitVec 8→BitVec 8→BitVec 8)(hf:∀ x y:Int,bitsI op .u8 x y=IntKind.u8.wrap ((f (BitVec.ofInt 8 x) (BitVec.ofInt 8 y)).toNat:Int))(x y:Int):bitsI op .u8 x y=((f (BitVec.ofInt 8 x) (BitVec.ofInt 8 y)).toNat:Int):=by
 rw [hf]
 have:=(f (BitVec.ofInt 8 x) (BitVec.ofInt 8 y)).isLt
 exact wr_u8 _ (by omega) (by omega)
theorem b_and (x y:Int):bitsI .and .u8 x y=((BitVec.ofInt 8 x &&& BitVec.ofInt 8 y).toNat:Int):=bI .and (· &&& ·) (λ_ _=>rfl) x y
theorem b_or (x y:Int):bitsI .or .u8 x y=((BitVec.ofInt 8 x ||| BitVec.ofInt 8 y).toNat:Int):=bI .or (· ||| ·) (λ_ _=>rfl) x y
theorem b_xor (x y:Int):bitsI .xor .u8 x y=((BitVec.ofInt 8 x ^^^ BitVec.ofInt 8 y).toNat:Int):=bI .xor (· ^^^ ·) (λ_ _=>rfl) x y
theorem b_an (x y:Int):bitsI .andNot .u8 x y=((BitVec.ofInt 8 x &&& ~~~ BitVec.ofInt 8 y).toNat:Int):=bI .andNot (λa b=>a &&& ~~~ b) (λ_ _=>rfl) x y
theorem b_of (v:BitVec 8):BitVec.ofInt 8 (v.toNat:Int) =v:=by simp
def vO (M:BitVec 8)(b:Nat→Bool):Nat→BitVec 8
 | 0=>0
 | k+1=>if b k then vO M b k ||| ((BitVec.ofInt 8 (IntKind.u8.wrap (1 * 2 ^ k))) &&& M) else vO M b k
theorem nxO_v (s:Se)(st raw:Int):∀ k,nxO s st raw k=((vO (BitVec.ofInt 8 s.mk') (nxB s st raw) k).toNat:Int)
 | 0=>rfl
 | k+1=>by
   have ih:=nxO_v s st raw k
   unfold nxO vO
   split
   · rw [b_or,ih,b_of,bitI,b_and,b_of]
   · exact ih
theorem vO_c {M:BitVec 8} {b c:Nat→Bool}:∀ {k},(∀ i,i < k→b i=c i)→vO M b k=vO M c k
 | 0,_=>rfl
 | k+1,h=>by
   unfold vO
   rw [h k (by omega),vO_c (λi hi=>h i (by omega))]
theorem vO_sub (M:BitVec 8)(b:Nat→Bool):∀ k,vO M b k &&& ~~~ M=0#8
 | 0=>by show (0#8 &&& ~~~ M) =0#8; simp
 | k +1=>by
   have ih:=vO_sub M b k
   unfold vO
   split
   · have e:(vO M b k ||| ((BitVec.ofInt 8 (IntKind.u8.wrap (1 * 2 ^ k))) &&& M)) &&& ~~~ M=vO M b k &&& ~~~ M:=by
      generalize BitVec.ofInt 8 (IntKind.u8.wrap (1 * 2 ^ k)) =K
      apply BitVec.eq_of_getLsbD_eq
      intro n hn
      simp only [BitVec.getLsbD_and,BitVec.getLsbD_or,BitVec.getLsbD_not,hn,decide_true,Bool.true_and]
      generalize (vO M b k).getLsbD n=x1
      generalize K.getLsbD n=x2
      generalize M.getLsbD n=x3
      revert x1 x2 x3
      decide
     rw [e]
     exact ih
   · exact ih
theorem vO_k:∀ k:Fin 6,∀ n:Fin 8,(BitVec.ofInt 8 (IntKind.u8.wrap (1 * 2 ^ k.val))).getLsbD n.val=decide (n.val=k.val):=by decide +kernel
theorem vO_get (M:BitVec 8)(b:Nat→Bool) {n:Nat}(hn:n < 8):∀ k,k≤6→(vO M b k).getLsbD n=(decide (n < k) && b n && M.getLsbD n)
 | 0,_=>by
   show (0#8).getLsbD n=_
   simp
 | k + 1,hk=>by
   have ih:=vO_get M b hn k (by omega)
   have hx:=vO_k ⟨k,by omega⟩ ⟨n,hn⟩
   dsimp only at hx
   unfold vO
   by_cases hb:b k=true
   · rw [if_pos hb,BitVec.getLsbD_or,BitVec.getLsbD_and,ih,hx]
     by_cases e:n=k
     · subst e
       simp [hb]
     · have e1:decide (n < k+1) =decide (n < k):=by
        rw [decide_eq_decide]; omega
       rw [e1,decide_eq_false e]
       simp
   · rw [if_neg hb,ih]
     by_cases e:n=k
     · subst e
       simp [hb]
     · have e1:decide (n < k+1) =decide (n < k):=by
        rw [decide_eq_decide]; omega
       rw [e1]
theorem vO_off (M:BitVec 8)(b:Nat→Bool) {i:Nat}(hi:i < 6)(h:b i=false):vO M b 6 &&& ((BitVec.ofInt 8 (IntKind.u8.wrap (1 * 2 ^ i))) &&& M) =0#8:=by
 apply BitVec.eq_of_getLsbD_eq
 intro n hn
 have hx:=vO_k ⟨i,hi⟩ ⟨n,hn⟩
 dsimp only at hx
 rw [BitVec.getLsbD_and,BitVec.getLsbD_and,vO_get M b hn 6 (Nat.le_refl _),hx]
 by_cases e:n=i
 · subst e
   simp [h]
 · simp [e]
theorem nxt_bd (s:Se)(st raw:Int):0≤nxt s st raw∧nxt s st raw≤255:=by
 rw [nxt,nxO_v]
 have:=(vO (BitVec.ofInt 8 s.mk') (nxB s st raw) 6).isLt
 omega
theorem nxt_an (s:Se)(st raw:Int):bitsI .andNot .u8 (nxt s st raw) s.mk'=0:=by
 rw [nxt,nxO_v,b_an,b_of,vO_sub]
 rfl
theorem and_0 (y:Int):bitsI .and .u8 0 y=0:=by
 rw [b_and]
 show ((0#8 &&& _).toNat:Int) =0
 simp
theorem nxO_c {s:Se} {st st' raw:Int}(h:∀ i,i < 6→nxB s st raw i=nxB s st' raw i):nxt s st raw=nxt s st' raw:=by
 rw [nxt,nxt,nxO_v,nxO_v,vO_c h]
theorem nxt_stay (s:Se)(raw:Int):nxt s (nxt s 0 raw) raw=nxt s 0 raw:=by
 refine nxO_c (λi hi=>?_)
 by_cases hb:nxB s 0 raw i=true
 · rw [hb]
   unfold nxB at hb ⊢
   rw [and_0] at hb
   simp at hb
   simp [hb]
 · have hb:nxB s 0 raw i=false:=by simpa using hb
   rw [hb]
   have h0:bitsI .and .u8 (nxt s 0 raw) (bitI s i) =0:=by
    rw [nxt,nxO_v,bitI,b_and,b_of,b_and,b_of,vO_off _ _ hi hb]
    rfl
   unfold nxB at hb ⊢
   rw [h0]
   simp at hb
   simp [hb.1]
theorem xor_self' (x:Int):bitsI .xor .u8 x x=0:=by
 rw [b_xor]; simp
theorem u8b0 (k:Nat):u8b 0 k=false:=by
 unfold u8b
 rw [Int.zero_fdiv,and_0]
 rfl
theorem chO_same (x:Int):∀ k,chO x x k= []
 | 0=>rfl
 | k+1=>by
   have h:u8b (bitsI .xor .u8 x x) k=false:=by rw [xor_self',u8b0]
   rw [chO_f h,chO_same x k]
theorem calm {s:Se} {V:List Int} {st:Int}(hst:0≤st∧st≤255)(h:rdK s V=true→nxt s st (rdV s V) =st):scE s V st= []∧mS s V st=st:=by
 have w8:IntKind.u8.wrap st=st:=wr_u8 _ hst.1 hst.2
 have w16:IntKind.u16.wrap st=st:=wr_u16 _ (by omega) (by omega)
 unfold scE mS mC mT
 rw [w8]
 by_cases hk:rdK s V=true
 · rw [h hk,if_pos hk,if_pos hk,w16,chO_same]
   exact ⟨rfl,rfl⟩
 · rw [if_neg hk,if_neg hk]
   exact ⟨rfl,rfl⟩
theorem okM.step {s:Se} {w:AV} {m st raw:Int}(ok:Bool)(h:okM s w m st)(hr:0≤raw∧raw≤255):okM s (byt (stW s (wOf w) raw ok m)) (stM m ok) (mS s (stW s (wOf w) raw ok m) st):=by
 have hB:=Byt_st (s:=s) (m:=m) (ok:=ok) h.hb hr
 have hF:=okF_st (raw:=raw) (ok:=ok) h.hs h.hf
 generalize stW s (wOf w) raw ok m=V at *
 refine ⟨h.hs,.l V,?_,?_,?_⟩
 · rw [byt,wOf_l]; exact hF
 · rw [byt,wOf_l]; exact hB
 · unfold mS mT
   split
   · have:=nxt_bd s (IntKind.u8.wrap st) (rdV s V)
     rw [wr_u16 _ (by omega) (by omega),wr_u8 _ (by omega) (by omega)]
     exact nxt_an _ _ _
   · exact h.ht
inductive WV where
 | nil
 | lst (l:List Int)
def WV.av:WV→AV
 | .nil=> .nil
 | .lst l=>byt l
def WV.l:WV→List Int
 | .nil=>[]
 | .lst l=>l
theorem WV.av_lst (l:List Int):(WV.lst l).av= .lst [.int .u8 0] (u8s l):=rfl
theorem WV.wOf (w:WV):wOf w.av=w.l:=by
 cases w
 · rfl
 · exact wOf_l _ _
theorem WV.nl (p:WV):NL p.av:=by
 cases p
 · exact .nil
 · exact .lst _ _
def s4 (q:Sq):Se:=⟨q.nu,q.ty,q.un,q.nm,q.ei,q.en,q.di,q.fo,q.sg,q.m,q.b,q.k1,q.k2,q.p.av,q.mk',q.r0,q.r1,q.r2,q.r3,q.r4,q.r5,q.hl,q.hu,q.st,IntKind.u16.wrap q.mk',IntKind.u16.wrap q.mk',false,q.sa⟩
theorem seD_s4 (q:Sq):seD [.int .u8 q.nu,.int .u8 q.ty,.int .u8 q.un,.str q.nm,.int .u8 q.ei,.int .u8 q.en,.bool q.di,.int .i64 q.fo,.bool q.sg,.int .i64 q.m,.int .i64 q.b,.int .i64 q.k1,.int .i64 q.k2,q.p.av,.int .u8 q.mk',.int .u8 q.r0,.int .u8 q.r1,.int .u8 q.r2,.int .u8 q.r3,.int .u8 q.r4,.int .u8 q.r5,.int .u8 q.hl,.int .u8 q.hu,.int .u16 q.st,.int .u16 (IntKind.u16.wrap q.mk'),.int .u16 (IntKind.u16.wrap q.mk'),.bool false,.int .i64 q.sa] =s4 q:=rfl
theorem s4_nu (q:Sq):(s4 q).nu=q.nu:=rfl
theorem s4_ty (q:Sq):(s4 q).ty=q.ty:=rfl
theorem s4_un (q:Sq):(s4 q).un=q.un:=rfl
theorem s4_nm (q:Sq):(s4 q).nm=q.nm:=rfl
theorem s4_ei (q:Sq):(s4 q).ei=q.ei:=rfl
theorem s4_en (q:Sq):(s4 q).en=q.en:=rfl
theorem s4_di (q:Sq):(s4 q).di=q.di:=rfl
theorem s4_fo (q:Sq):(s4 q).fo=q.fo:=rfl
theorem s4_sg (q:Sq):(s4 q).sg=q.sg:=rfl
theorem s4_m (q:Sq):(s4 q).m=q.m:=rfl
theorem s4_b (q:Sq):(s4 q).b=q.b:=rfl
theorem s4_k1 (q:Sq):(s4 q).k1=q.k1:=rfl
theorem s4_k2 (q:Sq):(s4 q).k2=q.k2:=rfl
theorem s4_mk (q:Sq):(s4 q).mk'=q.mk':=rfl
theorem s4_r0 (q:Sq):(s4 q).r0=q.r0:=rfl
theorem s4_r1 (q:Sq):(s4 q).r1=q.r1:=rfl
theorem s4_r2 (q:Sq):(s4 q).r2=q.r2:=rfl
theorem s4_r3 (q:Sq):(s4 q).r3=q.r3:=rfl
theorem s4_r4 (q:Sq):(s4 q).r4=q.r4:=rfl
theorem s4_r5 (q:Sq):(s4 q).r5=q.r5:=rfl
theorem s4_hl (q:Sq):(s4 q).hl=q.hl:=rfl
theorem s4_hu (q:Sq):(s4 q).hu=q.hu:=rfl
theorem s4_st (q:Sq):(s4 q).st=q.st:=rfl
theorem s4_sa (q:Sq):(s4 q).sa=q.sa:=rfl
theorem s4_pt (q:Sq):(s4 q).pt=q.p.av:=rfl
theorem s4_as (q:Sq):(s4 q).as'=IntKind.u16.wrap q.mk':=rfl
theorem s4_de (q:Sq):(s4 q).de=IntKind.u16.wrap q.mk':=rfl
theorem s4_ho (q:Sq):(s4 q).ho=false:=rfl
theorem pv_qx (p q:PtV)(B:Nat→Option Blk)(r i:Nat):lkC0 B r i p.av q.av= []:=by cases p<;>cases q<;>rfl
theorem an_same:∀ m:Fin 64,bitsI .andNot .u16 (bitsI .or .u16 (IntKind.u16.wrap (m.val:Int)) (IntKind.u16.wrap (m.val:Int))) (IntKind.u16.wrap (m.val:Int)) =0:=by decide +kernel
theorem s4_ok {n:Int} {q:Sq}(h:PreS n q.se):OkS (s4 q):=by
 refine ⟨h.nm,h.sa,h.di,h.cv,h.mk0,h.mk1,h.st,?_,h.rz,h.lo,h.up,h.ap,h.rb,h.hl,h.hu⟩
 have h0:=h.mk0
 have h1:=h.mk1
 have:=an_same ⟨(s4 q).mk'.toNat,by show q.mk'.toNat < 64; have:(0:Int)≤q.mk':=h0; have:q.mk' < 64:=h1; omega⟩
 have e:(((s4 q).mk'.toNat:Nat):Int) =(s4 q).mk':=Int.toNat_of_nonneg h0
 simp only [e] at this
 exact this
theorem okM0 {n:Int} {q:Sq}(h:PreS n q.se):okM (s4 q) .nil 0 0:=⟨s4_ok h,.inl rfl,⟨by show (0:Int)≤(s4 q).sa; rcases (s4_ok h).sa with e | e | e<;>omega,by decide,by decide,.inl (by decide)⟩,λx hx=>(by cases hx),by
 show bitsI .andNot .u8 (IntKind.u8.wrap 0) _=0
 rw [wr_u8 _ (by decide) (by decide),b_an]
 show ((0#8 &&& _).toNat:Int) =0
 simp⟩
theorem stW_t {s:Se} {L:List Int} {raw m:Int}:stW s L raw true m=if s.sa < ((L ++ [raw]).length:Nat) then (L ++ [raw]).drop 1 else L ++ [raw]:=rfl
theorem stW_f {s:Se} {L:List Int} {raw m:Int}:stW s L raw false m=if min (m+1) 3=3 then [] else L:=rfl
theorem rep_app (n:Nat)(x:Int):List.replicate n x ++ [x] =List.replicate (n+1) x:=List.replicate_succ'.symm
theorem cnt_rep (n:Nat)(x:Int):(List.replicate n x).countP (λy=>!decide (y=x)) =0:=by
 rw [List.countP_eq_zero]
 intro y hy
 rw [(List.mem_replicate.1 hy).2]
 simp
theorem rd_rep {s:Se}(hs:s.sa=1∨s.sa=3∨s.sa=5) {n:Nat}(hn:(n:Int) =s.sa) {x:Int}(hx:0≤x∧x≤255):rdV s (List.replicate n x) =x∧rdK s (List.replicate n x) =true:=by
 have hl:((List.replicate n x).length:Int) =s.sa:=by rw [List.length_replicate]; exact hn
 refine ⟨?_,decide_eq_true hl⟩
 unfold rdV
 rw [if_pos hl]
 refine med_st (λy hy=>by rw [(List.mem_replicate.1 hy).2]; exact hx) hx ?_
 rw [cnt_rep,List.length_replicate]
 omega
structure G0 (s:Se)(raw:Int)(i:Nat)(w:WV)(st:Int):Prop where
 ok:okM s w.av 0 st
 wl:w.l=List.replicate i raw
 hi:(i:Int)≤s.sa
 st:st=if (i:Int) =s.sa then nxt s 0 raw else 0
theorem G0.init {n:Int} {q:Sq}(h:PreS n q.se)(raw:Int):G0 (s4 q) raw 0 .nil 0:=by
 have:=(s4_ok h).sa
 refine ⟨okM0 h,rfl,by omega,?_⟩
 rw [if_neg (by omega)]
theorem G0.step {s:Se} {raw st:Int} {i:Nat} {w:WV}(h:G0 s raw i w st)(hr:0≤raw∧raw≤255)(hi:(i:Int) < s.sa):G0 s raw (i+1) (.lst (stW s w.l raw true 0)) (mS s (stW s w.l raw true 0) st):=by
 have hk:=h.ok.step true hr
 rw [w.wOf] at hk
 have e0:st=0:=by rw [h.st,if_neg (by omega)]
 have eW:stW s w.l raw true 0=List.replicate (i+1) raw:=by
  rw [stW_t,h.wl,rep_app,if_neg (by rw [List.length_replicate]; omega)]
 refine ⟨hk,eW,by omega,?_⟩
 rw [eW,e0]
 unfold mS mT
 by_cases e:((i+1:Nat):Int) =s.sa
 · obtain ⟨r1,r2⟩:=rd_rep h.ok.hs.sa e hr
   rw [if_pos e,r2,if_pos rfl,r1,wr_u8 0 (by decide) (by decide)]
   have:=nxt_bd s 0 raw
   exact wr_u16 _ (by omega) (by omega)
 · rw [if_neg e]
   have hn:¬ rdK s (List.replicate (i+1) raw) =true:=by
    unfold rdK
    rw [List.length_replicate,decide_eq_true_eq]
    exact e
   rw [if_neg hn]
structure G1 (s:Se)(raw:Int)(k:Nat)(w:WV)(m st:Int):Prop where
 ok:okM s w.av m st
 wl:w.l=if k < 3 then List.replicate s.sa.toNat raw else []
 mi:m=min (k:Int) 3
 st:st=nxt s 0 raw
theorem G0.done {s:Se} {raw st:Int} {i:Nat} {w:WV}(h:G0 s raw i w st)(hi:¬ (i:Int) < s.sa):G1 s raw 0 w 0 st:=by
 have hs:=h.ok.hs.sa
 have h1:=h.hi
 have e:(i:Int) =s.sa:=by omega
 refine ⟨h.ok,?_,by decide,?_⟩
 · rw [if_pos (by decide),h.wl]
   congr 1
   omega
 · rw [h.st,if_pos e]
theorem G1.rd {s:Se} {raw m st:Int} {k:Nat} {w:WV}(h:G1 s raw k w m st)(hr:0≤raw∧raw≤255):rdK s w.l=decide (k < 3)∧(k < 3→rdV s w.l=raw):=by
 have hs:=h.ok.hs.sa
 rw [h.wl]
 by_cases e:k < 3
 · obtain ⟨r1,r2⟩:=rd_rep hs (n:=s.sa.toNat) (by omega) hr
   rw [if_pos e,r1,r2,decide_eq_true e]
   exact ⟨rfl,λ_=>rfl⟩
 · rw [if_neg e,decide_eq_false e]
   refine ⟨decide_eq_false ?_,λhc=>absurd hc e⟩
   show ¬ (0:Int) =s.sa
   omega
theorem G1.step {s:Se} {raw m st:Int} {k:Nat} {w:WV}(h:G1 s raw k w m st)(hr:0≤raw∧raw≤255):G1 s raw (k+1) (.lst (stW s w.l 0 false m)) (stM m false) (mS s (stW s w.l 0 false m) st)∧scE s (stW s w.l 0 false m) st= []:=by
 have hk:=h.ok.step (raw:=0) false (by decide)
 rw [w.wOf] at hk
 have hm:=h.mi
 have eM:stM m false=min ((k+1:Nat):Int) 3:=by
  show min (m+1) 3=_
  omega
 have eW:stW s w.l 0 false m=if k+1 < 3 then List.replicate s.sa.toNat raw else []:=by
  rw [stW_f,h.wl]
  by_cases e:k+1 < 3
  · rw [if_neg (by omega),if_pos e,if_pos (by omega)]
  · rw [if_pos (by omega),if_neg e]
 have hb:=nxt_bd s 0 raw
 have hc:scE s (stW s w.l 0 false m) st= []∧mS s (stW s w.l 0 false m) st=st:=by
  refine calm (by rw [h.st]; exact hb) (λhK=>?_)
  rw [eW] at hK ⊢
  by_cases e:k+1 < 3
  · obtain ⟨r1,r2⟩:=rd_rep h.ok.hs.sa (n:=s.sa.toNat) (by have:=h.ok.hs.sa; omega) hr
    rw [if_pos e,r1,h.st]
    exact nxt_stay s raw
  · rw [if_neg e] at hK
    have:=of_decide_eq_true hK
    have h0:((0:Nat):Int) =s.sa:=this
    have:=h.ok.hs.sa
    omega
 refine ⟨⟨hk,eW,eM,?_⟩,hc.1⟩
 rw [hc.2]
 exact h.st
def wl (S:Int)(j:Nat):Prop:=S≤(j:Int) % (2 * S)∧(j:Int) % (2 * S) < S+S / 2
structure Wn (S sd:Int)(i:Nat)(L:List Int):Prop where
 len:(L.length:Int) =min (i:Int) S
 by':Byt L
 st:∀ k,k < L.length→¬ wl S (i - L.length+k)→L.getD k 0=sd
theorem Wn.init (S sd:Int)(hS:0≤S):Wn S sd 0 []:=⟨by show (0:Int) =_; omega,λx hx=>(by cases hx),λk hk=>absurd hk (Nat.not_lt_zero k)⟩
theorem Wn.step {S sd x:Int} {i:Nat} {L:List Int}(hS:1≤S)(h:Wn S sd i L)(hx:0≤x∧x≤255)(hw:¬ wl S i→x=sd):Wn S sd (i+1) (if S < ((L ++ [x]).length:Nat) then (L ++ [x]).drop 1 else L ++ [x]):=by
 have hl:=h.len
 have hb:Byt (L ++ [x]):=by
  intro y hy
  rcases List.mem_append.1 hy with hy | hy
  · exact h.by' y hy
  · rw [List.mem_singleton.1 hy]; exact hx
 have hla:(L ++ [x]).length=L.length+1:=by rw [List.length_append]; rfl
 have hle:L.length≤i:=by omega
 have hg:∀ k,k < L.length+1→¬ wl S (i - L.length+k)→(L ++ [x]).getD k 0=sd:=by
  intro k hk hn
  rw [List.getD_eq_getElem?_getD]
  by_cases e:k < L.length
  · rw [List.getElem?_append_left e,← List.getD_eq_getElem?_getD]
    exact h.st k e hn
  · have e2:k=L.length:=by omega
    subst e2
    rw [List.getElem?_append_right (Nat.le_refl _),Nat.sub_self]
    rw [show i - L.length+L.length=i by omega] at hn
    exact hw hn
 split
 · rename_i hc
   rw [hla] at hc
   have hld:((L ++ [x]).drop 1).length=L.length:=by rw [List.length_drop,hla]; omega
   refine ⟨by rw [hld]; omega,λy hy=>hb y (List.mem_of_mem_drop hy),λk hk hn=>?_⟩
   rw [hld] at hk hn
   rw [List.getD_eq_getElem?_getD,List.getElem?_drop,← List.getD_eq_getElem?_getD]
   refine hg (1+k) (by omega) ?_
   rwa [show i - L.length+(1+k) =i+1 - L.length+k by omega]
 · rename_i hc
   rw [hla] at hc
   refine ⟨by rw [hla]; omega,hb,λk hk hn=>?_⟩
   rw [hla] at hk hn
   refine hg k hk ?_
   rwa [show i - L.length+k=i+1 - (L.length+1)+k by omega]
theorem cz {sd x:Int}:(if (!decide (x=sd)) =true then 1 else 0)≤1∧(x=sd→(if (!decide (x=sd)) =true then 1 else 0) =0):=by
 refine ⟨by split<;>omega,λe=>?_⟩
 rw [decide_eq_true e]
 rfl
theorem Wn.med {S sd:Int} {i:Nat} {L:List Int}(hS:S=1∨S=3∨S=5)(h:Wn S sd i L)(hl:(L.length:Int) =S):2 * L.countP (λy=>!decide (y=sd)) < L.length:=by
 have hi:S≤i:=by have:=h.len; omega
 have hst:=h.st
 rcases hS with rfl | rfl | rfl
 · match L,hl with
   | [a],_=>
     have h0:=hst 0 (by simp)
     simp only [wl,List.length_cons,List.length_nil,List.getD_cons_zero] at h0
     have ea:a=sd:=h0 (by omega)
     rw [ea]
     simp
 · match L,hl with
   | [a,b,c],_=>
     have h0:=hst 0 (by simp)
     have h1:=hst 1 (by simp)
     have h2:=hst 2 (by simp)
     simp only [wl,List.length_cons,List.length_nil,List.getD_cons_zero,List.getD_cons_succ] at h0 h1 h2
     have ka:=@cz sd a
     have kb:=@cz sd b
     have kc:=@cz sd c
     simp only [List.countP_cons,List.countP_nil,List.length_cons,List.length_nil]
     generalize (if (!decide (a=sd)) =true then 1 else 0) =ya at *
     generalize (if (!decide (b=sd)) =true then 1 else 0) =yb at *
     generalize (if (!decide (c=sd)) =true then 1 else 0) =yc at *
     have ha:(¬ (3≤((i - (0+1+1+1)+0:Nat):Int) % (2 * 3)∧((i - (0+1+1+1)+0:Nat):Int) % (2 * 3) < 3+3 / 2))→ya=0:=λx=>ka.2 (h0 x)
     have hb:(¬ (3≤((i - (0+1+1+1)+1:Nat):Int) % (2 * 3)∧((i - (0+1+1+1)+1:Nat):Int) % (2 * 3) < 3+3 / 2))→yb=0:=λx=>kb.2 (h1 x)
     have hc:(¬ (3≤((i - (0+1+1+1)+2:Nat):Int) % (2 * 3)∧((i - (0+1+1+1)+2:Nat):Int) % (2 * 3) < 3+3 / 2))→yc=0:=λx=>kc.2 (h2 x)
     omega
 · match L,hl with
   | [a,b,c,d,e],_=>
     have h0:=hst 0 (by simp)
     have h1:=hst 1 (by simp)
     have h2:=hst 2 (by simp)
     have h3:=hst 3 (by simp)
     have h4:=hst 4 (by simp)
     simp only [wl,List.length_cons,List.length_nil,List.getD_cons_zero,List.getD_cons_succ] at h0 h1 h2 h3 h4
     have ka:=@cz sd a
     have kb:=@cz sd b
     have kc:=@cz sd c
     have kd:=@cz sd d
     have ke:=@cz sd e
     simp only [List.countP_cons,List.countP_nil,List.length_cons,List.length_nil]
     generalize (if (!decide (a=sd)) =true then 1 else 0) =ya at *
     generalize (if (!decide (b=sd)) =true then 1 else 0) =yb at *
     generalize (if (!decide (c=sd)) =true then 1 else 0) =yc at *
     generalize (if (!decide (d=sd)) =true then 1 else 0) =yd at *
     generalize (if (!decide (e=sd)) =true then 1 else 0) =ye at *
     have ha:=λx=>ka.2 (h0 x)
     have hb:=λx=>kb.2 (h1 x)
     have hc:=λx=>kc.2 (h2 x)
     have hd:=λx=>kd.2 (h3 x)
     have he:=λx=>ke.2 (h4 x)
     clear h0 h1 h2 h3 h4 hst
     omega
structure O1 (s:Se)(sd:Int)(i:Nat)(w:WV):Prop where
 ok:okM s w.av 0 0
 wn:Wn s.sa sd i w.l
 nx:nxt s 0 sd=0
theorem O1.init {n:Int} {q:Sq}(h:PreS n q.se) {sd:Int}(hn:nxt (s4 q) 0 sd=0):O1 (s4 q) sd 0 .nil:=by
 have:=(s4_ok h).sa
 exact ⟨okM0 h,Wn.init _ _ (by omega),hn⟩
theorem O1.step {s:Se} {sd x:Int} {i:Nat} {w:WV}(h:O1 s sd i w)(hd:0≤sd∧sd≤255)(hx:0≤x∧x≤255)(hw:¬ wl s.sa i→x=sd):O1 s sd (i+1) (.lst (stW s w.l x true 0))∧mS s (stW s w.l x true 0) 0=0∧scE s (stW s w.l x true 0) 0= []∧rdK s (stW s w.l x true 0) =decide (s.sa≤(i:Int)+1)∧(rdK s (stW s w.l x true 0) =true→rdV s (stW s w.l x true 0) =sd):=by
 have hs:=h.ok.hs.sa
 have hk:=h.ok.step true hx
 rw [w.wOf] at hk
 have hW:=h.wn.step (by omega) hx hw
 rw [← stW_t (m:=0)] at hW
 generalize stW s w.l x true 0=V at *
 have hlen:=hW.len
 have hr:rdK s V=true→rdV s V=sd:=by
  intro hK
  have hl:(V.length:Int) =s.sa:=of_decide_eq_true hK
  unfold rdV
  rw [if_pos hl]
  exact med_st hW.by' hd (hW.med hs hl)
 have hc:=calm (s:=s) (V:=V) (st:=0) (by decide) (λhK=>by rw [hr hK]; exact h.nx)
 rw [hc.2] at hk
 refine ⟨⟨hk,hW,h.nx⟩,hc.2,hc.1,?_,hr⟩
 unfold rdK
 rw [decide_eq_decide]
 omega
structure K4wa (raw g:Int) where
 q:Sq
 i:Nat
 w:WV
 st:Int
 hq:PreS 9 q.se
 h:G0 (s4 q) raw i w st
def S4wa (raw g:Int)(p:K4wa raw g):SL:=⟨[(1,U raw),(2,Ii g),(7,.ptr 512 0),(8,.ptr 2944 0),(10,Ii p.i)],[(512,.cells [U p.q.nu,U p.q.ty,U p.q.un,.str p.q.nm,U p.q.ei,U p.q.en,.bool p.q.di,Ii p.q.fo,.bool p.q.sg,Ii p.q.m,Ii p.q.b,Ii p.q.k1,Ii p.q.k2,p.q.p.av,U p.q.mk',U p.q.r0,U p.q.r1,U p.q.r2,U p.q.r3,U p.q.r4,U p.q.r5,U p.q.hl,U p.q.hu,.int .u16 p.q.st,.int .u16 (IntKind.u16.wrap p.q.mk'),.int .u16 (IntKind.u16.wrap p.q.mk'),.bool false,Ii p.q.sa]),(2944,.cells [.vw 2945 0 0 0,.nil,.vw 2946 0 0 0,.vw 2947 0 0 0]),(2945,.buf 36 zS [[U p.q.nu,U p.q.ty,U p.q.un,.str p.q.nm,U p.q.ei,U p.q.en,.bool p.q.di,Ii p.q.fo,.bool p.q.sg,Ii p.q.m,Ii p.q.b,Ii p.q.k1,Ii p.q.k2,p.q.p.av,U p.q.mk',U p.q.r0,U p.q.r1,U p.q.r2,U p.q.r3,U p.q.r4,U p.q.r5,U p.q.hl,U p.q.hu,.int .u16 p.q.st,.int .u16 (IntKind.u16.wrap p.q.mk'),.int .u16 (IntKind.u16.wrap p.q.mk'),.bool false,Ii p.q.sa]]),(2946,.buf 114 [.nil,Ii 0] [[p.w.av,Ii 0]]),(2947,.buf 34 [.int .u16 0] [[.int .u16 p.st]])]⟩
abbrev L4wa (raw g:Int):LI:=⟨K4wa raw g,S4wa raw g,λp=>p.q.sa.toNat - p.i,λp q=>True⟩
theorem L4waS (raw g:Int):(L4wa raw g).S=S4wa raw g:=rfl
theorem L4waR (raw g:Int)(p q:K4wa raw g):(L4wa raw g).R p q=(True):=rfl
structure K4wb (raw g:Int) where
 q:Sq
 k:Nat
 w:WV
 m:Int
 st:Int
 hq:PreS 9 q.se
 hk:(k:Int)≤modI g 6
 h:G1 (s4 q) raw k w m st
def S4wb (raw g:Int)(p:K4wb raw g):SL:=⟨[(1,U raw),(8,.ptr 2944 0),(13,.int .u16 (nxt (s4 p.q) 0 raw)),(14,.bool true),(15,Ii (modI g 6)),(16,Ii ((p.k:Int)+1))],[(2944,.cells [.vw 2945 0 0 0,.nil,.vw 2946 0 0 0,.vw 2947 0 0 0]),(2945,.buf 36 zS [[U p.q.nu,U p.q.ty,U p.q.un,.str p.q.nm,U p.q.ei,U p.q.en,.bool p.q.di,Ii p.q.fo,.bool p.q.sg,Ii p.q.m,Ii p.q.b,Ii p.q.k1,Ii p.q.k2,p.q.p.av,U p.q.mk',U p.q.r0,U p.q.r1,U p.q.r2,U p.q.r3,U p.q.r4,U p.q.r5,U p.q.hl,U p.q.hu,.int .u16 p.q.st,.int .u16 (IntKind.u16.wrap p.q.mk'),.int .u16 (IntKind.u16.wrap p.q.mk'),.bool false,Ii p.q.sa]]),(2946,.buf 114 [.nil,Ii 0] [[p.w.av,Ii p.m]]),(2947,.buf 34 [.int .u16 0] [[.int .u16 p.st]])]⟩
abbrev L4wb (raw g:Int):LI:=⟨K4wb raw g,S4wb raw g,λp=>(modI g 6).toNat - p.k,λp q=>True⟩
theorem L4wbS (raw g:Int):(L4wb raw g).S=S4wb raw g:=rfl
theorem L4wbR (raw g:Int)(p q:K4wb raw g):(L4wb raw g).R p q=(True):=rfl
def I4w (raw g:Int):Nat→LI:=λn=>if n=0 then L4wa raw g else L4wb raw g
theorem I4w_0 (raw g:Int):I4w raw g 0=L4wa raw g:=rfl
theorem I4w_1 (raw g:Int):I4w raw g 1=L4wb raw g:=rfl
theorem walk4 (P6:Phi 6=some CFst)(P7:Phi 7=some KLig)(P8:Phi 8=some KRol)(P9:Phi 9=some KAn)(P11:Phi 11=some CNewM)(P12:Phi 12=some CScn)(P13:Phi 13=some CRdg)(P15:Phi 15=some CSta)(P16:Phi 16=some CM)(L:List Int)(raw g:Int)(hr:0≤raw∧raw≤255):evC Phi (I4w raw g) rc4 ⟨initS [.lst [Ii 0] (i64s L),U raw,Ii g],initM false []⟩ (kRet rv4 (.bool true) false []):=by
 simp (maxSteps:=2000000) only [rc4,pk,un,rv4,P6,CFst,↓reduceIte,Nat.reduceEqDiff,P7,KLig,P8,KRol,Qg0,↓Qi0,Nat.reduceLT,P9,KAn,Nat.reduceMul,Nat.reduceAdd,Int.reduceLE,pv_wf,pv_frs,pv_unf,pv_k0,Nat.reduceLeDiff,pv_v0,pv_c0,P11,CNewM,Se.cs,↓seD_s4,s4_nu,s4_ty,s4_un,s4_nm,s4_ei,s4_en,s4_di,s4_fo,s4_sg,s4_m,s4_b,s4_k1,s4_k2,s4_pt,s4_mk,s4_r0,s4_r1,s4_r2,s4_r3,s4_r4,s4_r5,s4_hl,s4_hu,s4_st,s4_as,s4_de,s4_ho,s4_sa,Nat.reduceBEq,Bool.cond_false,I4w_0,L4waS,S4wa,pv_qx,L4waR,P12,CScn,grM,gsM,gwM,gmM,gtM,byt,WV.wOf,Option.isSome_some,P15,CSta,P16,CM,I4w_1,L4wbS,S4wb,L4wbR,P13,CRdg,WOk.l,wOf_l,evs_len,Bool.cond_true]
 intro hl
 refine ⟨by
  have:((L.length:Int)≤600):=by simpa using hl
  omega,?_⟩
 rintro ⟨q,c⟩ ⟨hq,_⟩
 dsimp only at hq ⊢
 refine ⟨s4_ok hq,⟨q,0,.nil,0,hq,G0.init hq raw⟩,⟨rfl,⟨rfl,rfl,rfl,rfl,rfl,rfl,rfl,rfl,rfl,rfl,rfl,rfl,rfl,of_eq_true (NL.le (PtV.nl _)),rfl,rfl,rfl,rfl,rfl,rfl,rfl,rfl,rfl,rfl,rfl,rfl,rfl⟩,rfl,rfl,rfl⟩,?_⟩
 rintro ⟨q,i,w,st,hq,h⟩
 dsimp only
 have hn:q.nu=9:=hq.nu
 have hs:q.sa=1∨q.sa=3∨q.sa=5:=hq.sa
 refine ⟨λhc=>?_,λhc=>?_⟩
 · have hc:=of_decide_eq_true hc
   refine ⟨⟨hn.symm,h.ok,hr⟩,⟨q,i+1,_,_,hq,h.step hr hc⟩,⟨by rw [wr_succ _ (by omega)],⟨rfl,rfl,rfl,rfl,rfl,rfl,rfl,rfl,rfl,rfl,rfl,rfl,rfl,of_eq_true (NL.le (PtV.nl _)),rfl,rfl,rfl,rfl,rfl,rfl,rfl,rfl,rfl,rfl,rfl,rfl,rfl⟩,rfl,rfl,rfl⟩,by dsimp only; omega⟩
 · have hc:=of_decide_eq_false hc
   have hd:=h.done hc
   have hst:=hd.st
   have hm:=modI_bd (n:=g) (m:=6) (by decide) (by decide)
   refine ⟨⟨hn.symm,PtV.nl _⟩,by decide,⟨q,0,w,0,st,hq,by omega,hd⟩,⟨⟨congrArg (AV.int IntKind.u16) hst,rfl⟩,rfl,rfl,rfl⟩,?_⟩
   rintro ⟨q,k,w,m,st,hq,hk,h⟩
   dsimp only
   have hn:q.nu=9:=hq.nu
   refine ⟨λhc=>?_,λhc=>?_⟩
   · have hc:=of_decide_eq_true hc
     obtain ⟨g1,g2⟩:=h.step hr
     obtain ⟨r1,r2⟩:=g1.rd hr
     have hf:=g1.ok.hf
     have hb:=g1.ok.hb
     rw [WV.wOf] at hf hb
     have hB:(!decide (((scE (s4 q) (stW (s4 q) w.l 0 false m) st).length:Int) =0) || !(rdK (s4 q) (stW (s4 q) w.l 0 false m) == decide ((k:Int)+1 < 3)) || rdK (s4 q) (stW (s4 q) w.l 0 false m) && !decide (rdV (s4 q) (stW (s4 q) w.l 0 false m) =raw)) =false:=by
      have e1:decide ((k:Int)+1 < 3) =decide (k+1 < 3):=by rw [decide_eq_decide]; omega
      have r1:rdK (s4 q) (stW (s4 q) w.l 0 false m) =decide (k+1 < 3):=r1
      have r2:k+1 < 3→rdV (s4 q) (stW (s4 q) w.l 0 false m) =raw:=r2
      rw [g2,r1,e1]
      by_cases e:k+1 < 3
      · rw [r2 e,decide_eq_true e,decide_eq_true rfl]; rfl
      · rw [decide_eq_false e]; rfl
     exact ⟨h.ok,⟨hn.symm,h.ok.hs,hf,hb⟩,λhx=>absurd (hB.symm.trans hx) (by decide),λ_=>⟨⟨q,k+1,_,_,_,hq,by omega,g1⟩,⟨⟨rfl,by rw [wr_in _ (by omega) (by omega)]; congr 1⟩,rfl,rfl,rfl⟩,by dsimp only; omega⟩⟩
   · exact ⟨⟨hn.symm,PtV.nl _⟩,congrArg AV.bool (decide_eq_true h.st)⟩
namespace Gaps
open Go.ChangeShapes Go.WideShapes Go.ChangeAt Go.RowKit
open Go.Proofs.YthgmdkokaflgjaaGreatDoor.Dice
open Classical in
noncomputable def CF4 (L:List Int)(raw g:Int):List AV→List AV→Option (Prop×AV×List AV):=λ_ ys=>if ys= [.lst [.int .i64 0] (i64s L),.int .u8 raw,.int .i64 g] then some (True,.bool true,[]) else none
theorem sF4 (L:List Int)(raw g:Int)(hr:0≤raw∧raw≤255):Sound Tryz.prog 4 (.mk false (CF4 L raw g)):=
 Qc0 (by kernel_rfl) (Qa0 s6 (Qa0 s7 (Qa0 s8 (Qa0 s9 (Qa0 s11 (Qa0 s12 (Qa0 s13 (Qa0 s15 (Qa0 s16 Qb0))))))))) Tryz.func4 rfl rc4_ok rv4_ok (by
 intro xs q r cs' h _
 unfold CF4 at h
 split at h
 · rename_i e'; subst e'
   cases h
   exact ⟨I4w raw g,rfl,Nat.le_of_ble_eq_true rfl,walk4 rfl rfl rfl rfl rfl rfl rfl rfl rfl L raw g hr⟩
 · cases h)
theorem own:ownKnob Tryz.prog.godebug=none:=by kernel_rfl
theorem laidOut:laidOutB Tryz.prog=true:=by kernel_rfl
set_option maxRecDepth 100000 in
theorem lifted (os:Os)(started:os.Started)(H:Type)(enc:TypeId×Value→H):
 ReturnsInHanded {} Tryz.checked os 4 .any (λw args=>(Rows.topGapsSpec.pre enc Tryz.prog Tryz.f4 [] false w args∧laidMetH Tryz.prog laidL w)∧sizedMet enc Tryz.prog Tryz.f4 (OpenSpec.ofChange Rows.topGapsSpec) false w args)
  (Rows.topGapsSpec.post enc Tryz.prog Tryz.f4 false true false false):=by
 refine returnsInHanded_of_change_and (C:=Tryz.checked) (X:=λw _=>laidMetH Tryz.prog laidL w) (λ_ _ _ hh h=>h.of_heap hh) own started (by kernel_rfl) Tryz.func4
  (ChangeSpec.witness_shaped (enc:=enc) (C:=Tryz.checked) (os:=os) (X:=λw _=>laidMetH Tryz.prog laidL w) false (World.doorLaid Tryz.prog 400 os) #[(.slice none 0 0),(.int .u8 0),(.int .i64 0)] 8 rfl (World.shaped_of_RefB (by kernel_rfl) (by kernel_rfl)) (by kernel_rfl) (by kernel_rfl) (by kernel_rfl) (door_met os _)) ?_
 intro W base args ds gs before hval0 hW _ _ hL _
 have hval:∀ (j:Nat) t v,Tryz.f4.params[j]? =some t→args[j]? =some v→Value.okWide Tryz.prog W .any base t v:=hval0
 have hW':=hW
 obtain ⟨p,q,hA0,hV,rfl,hfz,hnd⟩:=hW
 have hA:DataW.TrodAll enc Tryz.prog W 0 (λ_=>true) true Tryz.f4.params.toList args.toList ds p:=hA0
 rw [Tryz.params4] at hA hval
 obtain ⟨v0,vs0,d0,ds0,p0,q0,hargs,rfl,rfl,h0,r0⟩:=trodAll_cons hA
 obtain ⟨v1,vs1,d1,ds1,p1,q1,rfl,rfl,rfl,h1,r1⟩:=trodAll_cons r0
 obtain ⟨v2,vs2,d2,ds2,p2,q2,rfl,rfl,rfl,h2,r2⟩:=trodAll_cons r1
 obtain ⟨rfl,rfl,rfl⟩:=trodAll_nil r2
 obtain rfl:args= #[v0,v1,v2]:=by cases args; simp_all
 obtain ⟨rfl,rfl⟩:=trodVars_none hV
 have lt0:∀ x∈p0,x.block < W.heap.size:=by obtain ⟨m,hm⟩:=h0; exact DataW.trod_lt m _ _ _ hm
 have lt1:∀ x∈p1,x.block < W.heap.size:=by obtain ⟨m,hm⟩:=h1; exact DataW.trod_lt m _ _ _ hm
 have lt2:∀ x∈p2,x.block < W.heap.size:=by obtain ⟨m,hm⟩:=h2; exact DataW.trod_lt m _ _ _ hm
 have hZ:∀ b,b < W.heap.size→(λb=>b < W.heap.size) b:=λ_ h=>h
 obtain ⟨a0,l0,w0,e0⟩:=arg_sl hZ Tryz.underlying22 8 (D:=[.int .i64]) (by kernel_rfl) (hval 0 22 v0 rfl rfl) h0
 obtain ⟨a1,w1,e1⟩:=arg_int hZ Tryz.underlying5 (hval 1 5 v1 rfl rfl) h1
 obtain ⟨a2,w2,e2⟩:=arg_int hZ Tryz.underlying3 (hval 2 3 v2 rfl rfl) h2
 clear hA0 hval0
 obtain ⟨L,rfl⟩:=ex_i64s w0
 have hS:=sF4 L a1 a2 (bounds_u8 w1)
 have hC:CF4 L a1 a2 [] [.lst [.int .i64 0] (i64s L),.int .u8 a1,.int .i64 a2] =some (True,.bool true,[]):=by simp [CF4]
 have hq:=True.intro
 refine (law_calls hS (of_laid hL) (Reps.cons' e0 (Reps.cons' e1 (Reps.cons' e2 Reps.nil'))) hC hq).mono λe W' ⟨he,bel⟩=>?_
 subst he
 exact ⟨_,rfl,_,_,_,[],_,[],hW',trodAll_mk1 (shut_bool Tryz.underlying4 _),(trodAll_cons_mk (Below.trod laidOut (by kernel_rfl) (of_decide_eq_true (by kernel_rfl)) h0 bel lt0) (trodAll_cons_mk (Below.trod laidOut (by kernel_rfl) (of_decide_eq_true (by kernel_rfl)) h1 bel lt1) (trodAll_cons_mk (Below.trod laidOut (by kernel_rfl) (of_decide_eq_true (by kernel_rfl)) h2 bel lt2) trodAll_mk0))),rfl,bel.frame _,λh=>by cases h⟩
theorem over:Rows.topGapsRow.holds Tryz.pinned (OpenSpec.ofChange Rows.topGapsSpec):=
 OpenClaim.holds_of_wide 4 Tryz.f4 rfl rfl rfl rfl rfl rfl rfl ⟨rfl,rfl,rfl,rfl,rfl⟩ rfl rfl rfl rfl rfl (by kernel_rfl) Tryz.func4 (by kernel_rfl)
  (of_decide_eq_true (by kernel_rfl)) (by unfold Func.isWrapper; first | (rw [if_pos (by decide +kernel)]; kernel_rfl) | (rw [if_neg (by decide +kernel)]; exact ⟨rfl,rfl⟩))
  (λos started H enc _=>lifted os started H enc)
theorem proved:Rows.TopGapsCardSaid:=
 Claim7.holds_tied_plain_at .later [] [.widerDeep] true (true,"ba7e5234d014e39aefa8098911d24cb5691d9f787da6d2c6dc44818642b90ee9") false
  over (λ_ h=>by cases h) (by kernel_rfl) (λ_ h=>by cases h) topGaps_row_tie rfl ⟨rfl,rfl⟩ (by kernel_rfl) rfl
  (λf fn hf hfn=>by
   obtain rfl:f=4:=Option.some.inj ((show Tryz.prog.funcNamed "baseboard/baseboardtop.TopGaps" =some 4 by kernel_rfl).symm.trans hf) |>.symm
   obtain rfl:fn=Tryz.f4:=(Option.some.inj (Tryz.func4.symm.trans hfn)).symm
   exact ⟨by kernel_rfl,λj t ht=>by
    rw [Tryz.params4] at ht
    have hm:t∈ [22,5,3]:=by simpa using Array.mem_of_getElem? ht
    have hall:([22,5,3].all λu=>!Tryz.prog.wantsStandIn u) =true:=by kernel_rfl
    exact (show Tryz.prog.wantsStandIn t=false by simpa using List.all_eq_true.1 hall t hm)⟩)
  (by kernel_rfl)
#print axioms proved
end Gaps
structure K3wa (sd:Int)(Wd:List Int) where
 q:Sq
 i:Nat
 a:Nat
 w:WV
 hq:PreS 9 q.se
 hi:i≤60
 ha:a≤Wd.length
 hl:Wd.length≤20
 h:O1 (s4 q) sd i w
def S3wa (sd:Int)(Wd:List Int)(p:K3wa sd Wd):SL:=⟨[(1,U sd),(2,.lst [U 0] (u8s Wd)),(7,.ptr 512 0),(10,.ptr 3392 0),(12,Ii p.a),(13,Ii p.i)],[(512,.cells [U p.q.nu,U p.q.ty,U p.q.un,.str p.q.nm,U p.q.ei,U p.q.en,.bool p.q.di,Ii p.q.fo,.bool p.q.sg,Ii p.q.m,Ii p.q.b,Ii p.q.k1,Ii p.q.k2,p.q.p.av,U p.q.mk',U p.q.r0,U p.q.r1,U p.q.r2,U p.q.r3,U p.q.r4,U p.q.r5,U p.q.hl,U p.q.hu,.int .u16 p.q.st,.int .u16 (IntKind.u16.wrap p.q.mk'),.int .u16 (IntKind.u16.wrap p.q.mk'),.bool false,Ii p.q.sa]),(3392,.cells [.vw 3393 0 0 0,.nil,.vw 3394 0 0 0,.vw 3395 0 0 0]),(3393,.buf 36 zS [[U p.q.nu,U p.q.ty,U p.q.un,.str p.q.nm,U p.q.ei,U p.q.en,.bool p.q.di,Ii p.q.fo,.bool p.q.sg,Ii p.q.m,Ii p.q.b,Ii p.q.k1,Ii p.q.k2,p.q.p.av,U p.q.mk',U p.q.r0,U p.q.r1,U p.q.r2,U p.q.r3,U p.q.r4,U p.q.r5,U p.q.hl,U p.q.hu,.int .u16 p.q.st,.int .u16 (IntKind.u16.wrap p.q.mk'),.int .u16 (IntKind.u16.wrap p.q.mk'),.bool false,Ii p.q.sa]]),(3394,.buf 114 [.nil,Ii 0] [[p.w.av,Ii 0]]),(3395,.buf 34 [.int .u16 0] [[.int .u16 0]])]⟩
abbrev L3wa (sd:Int)(Wd:List Int):LI:=⟨K3wa sd Wd,S3wa sd Wd,λp=>60 - p.i,λp q=>True⟩
theorem L3waS (sd:Int)(Wd:List Int):(L3wa sd Wd).S=S3wa sd Wd:=rfl
theorem L3waR (sd:Int)(Wd:List Int)(p q:K3wa sd Wd):(L3wa sd Wd).R p q=(True):=rfl
def I3w (sd:Int)(Wd:List Int):Nat→LI:=λn=>L3wa sd Wd
theorem I3w_0 (sd:Int)(Wd:List Int):I3w sd Wd 0=L3wa sd Wd:=rfl
theorem walk3 (P6:Phi 6=some CFst)(P7:Phi 7=some KLig)(P8:Phi 8=some KRol)(P9:Phi 9=some KAn)(P10:Phi 10=some CRch)(P11:Phi 11=some CNewM)(P12:Phi 12=some CScn)(P13:Phi 13=some CRdg)(P14:Phi 14=some CNum)(L Wd:List Int)(sd:Int)(hr:0≤sd∧sd≤255)(hw:∀ x∈Wd,0≤x∧x≤255):evC Phi (I3w sd Wd) rc3 ⟨initS [.lst [Ii 0] (i64s L),U sd,.lst [U 0] (u8s Wd)],initM false []⟩ (kRet rv3 (.bool true) false []):=by
 simp (maxSteps:=2000000) only [rc3,pk,un,rv3,P6,CFst,↓reduceIte,Nat.reduceEqDiff,P7,KLig,P8,KRol,Qg0,↓Qi0,Nat.reduceLT,P9,KAn,Nat.reduceMul,Nat.reduceAdd,Int.reduceLE,pv_wf,pv_frs,pv_unf,pv_k0,Nat.reduceLeDiff,P10,CRch,Se.cs,pv_la,↓seD_s4,s4_nu,s4_ty,s4_un,s4_nm,s4_ei,s4_en,s4_di,s4_fo,s4_sg,s4_m,s4_b,s4_k1,s4_k2,s4_pt,s4_mk,s4_r0,s4_r1,s4_r2,s4_r3,s4_r4,s4_r5,s4_hl,s4_hu,s4_st,s4_as,s4_de,s4_ho,s4_sa,pv_v0,pv_c0,P11,CNewM,Nat.reduceBEq,Bool.cond_false,I3w_0,L3waS,S3wa,pv_qx,L3waR,P12,CScn,grM,gsM,gwM,gmM,gtM,byt,WV.wOf,Option.isSome_some,P13,CRdg,WOk.l,wOf_l,evs_len,P14,CNum]
 intro hl
 rw [Bool.or_eq_false_iff] at hl
 have hl1:((L.length:Int)≤600):=by simpa using hl.1
 have hl2:Wd.length≤20:=by
  have:=of_decide_eq_false hl.2
  omega
 refine ⟨by omega,?_⟩
 rintro ⟨q,c⟩ ⟨hq,_⟩
 dsimp only at hq ⊢
 refine ⟨s4_ok hq,s4_ok hq,λhz=>?_⟩
 have hz:nxt (s4 q) 0 sd=0:=by simpa using hz
 refine ⟨⟨q,0,0,.nil,hq,by omega,by omega,hl2,O1.init hq hz⟩,⟨⟨rfl,rfl⟩,⟨rfl,rfl,rfl,rfl,rfl,rfl,rfl,rfl,rfl,rfl,rfl,rfl,rfl,of_eq_true (NL.le (PtV.nl _)),rfl,rfl,rfl,rfl,rfl,rfl,rfl,rfl,rfl,rfl,rfl,rfl,rfl⟩,rfl,rfl⟩,?_⟩
 rintro ⟨q,i,a,w,hq,hi,ha,_,h⟩
 dsimp only
 intro hi60
 have hi60:=of_decide_eq_true hi60
 have hn:q.nu=9:=hq.nu
 have hs:q.sa=1∨q.sa=3∨q.sa=5:=hq.sa
 have eM:IntKind.i64.wrap (2 * q.sa) =2 * q.sa:=wr_in _ (by omega) (by omega)
 have eT:(i:Int).tmod (2 * q.sa) =(i:Int) % (2 * q.sa):=tmod_nn _ _ (by omega)
 have eQ:IntKind.i64.wrap (q.sa+IntKind.i64.wrap (q.sa.tdiv 2)) =q.sa+q.sa / 2:=by
  rw [Int.tdiv_eq_ediv_of_nonneg (by omega),wr_in (q.sa / 2) (by omega) (by omega),wr_in _ (by omega) (by omega)]
 rw [eM,eT,eQ]
 refine ⟨by omega,λ_=>by omega,λ_=>by decide,λhc=>?_,λhc=>?_⟩
 · rw [Bool.and_eq_true,Bool.and_eq_true] at hc
   have c1:=of_decide_eq_true hc.1.1
   have c2:=of_decide_eq_true hc.1.2
   have c3:=of_decide_eq_true hc.2
   have hx:0≤Wd.getD a 0∧Wd.getD a 0≤255:=by
    rw [List.getD_eq_getElem?_getD,List.getElem?_eq_getElem (by omega)]
    exact hw _ (List.getElem_mem _)
   have hwx:¬ wl (s4 q).sa i→Wd.getD a 0=sd:=λhh=>absurd (show wl (s4 q).sa i from ⟨c1,c2⟩) hh
   obtain ⟨g1,g2,g3,g4,g5⟩:=h.step hr hx hwx
   have hf:=g1.ok.hf
   have hb:=g1.ok.hb
   rw [WV.wOf] at hf hb
   have hB:(!decide (((scE (s4 q) (stW (s4 q) w.l (Wd.getD a 0) true 0) 0).length:Int) =0) || !(rdK (s4 q) (stW (s4 q) w.l (Wd.getD a 0) true 0) == decide (q.sa≤IntKind.i64.wrap ((i:Int)+1))) || rdK (s4 q) (stW (s4 q) w.l (Wd.getD a 0) true 0) && !decide (num q.sg (rdV (s4 q) (stW (s4 q) w.l (Wd.getD a 0) true 0)) =num q.sg sd)) =false:=by
    rw [g3,wr_in ((i:Int)+1) (by omega) (by omega)]
    have g4:rdK (s4 q) (stW (s4 q) w.l (Wd.getD a 0) true 0) =decide (q.sa≤(i:Int)+1):=g4
    rw [g4] at g5 ⊢
    by_cases e:q.sa≤(i:Int)+1
    · rw [decide_eq_true e] at g5 ⊢
      rw [g5 rfl,decide_eq_true rfl]; rfl
    · rw [decide_eq_false e]; rfl
   have hm:[[AV.int IntKind.u16 (mS (s4 q) (stW (s4 q) w.l (Wd.getD a 0) true 0) 0)]] = [[AV.int IntKind.u16 0]]:=by rw [g2]
   exact ⟨⟨by omega,c3⟩,λ_=>⟨⟨hn.symm,h.ok,hx⟩,⟨hn.symm,h.ok.hs,hf,hb⟩,λhy=>absurd (hB.symm.trans hy) (by decide),λ_=>⟨⟨q,i+1,a+1,_,hq,by omega,by omega,hl2,g1⟩,⟨⟨by rw [wr_succ _ (by omega)],by rw [wr_succ _ (by omega)]⟩,⟨rfl,rfl,rfl,rfl,rfl,rfl,rfl,rfl,rfl,rfl,rfl,rfl,rfl,of_eq_true (NL.le (PtV.nl _)),rfl,rfl,rfl,rfl,rfl,rfl,rfl,rfl,rfl,rfl,rfl,rfl,rfl⟩,rfl,rfl,hm⟩,by dsimp only; omega⟩⟩⟩
 · have hx:=hr
   have hwx:¬ wl (s4 q).sa i→sd=sd:=λ_=>rfl
   obtain ⟨g1,g2,g3,g4,g5⟩:=h.step hr hx hwx
   have hf:=g1.ok.hf
   have hb:=g1.ok.hb
   rw [WV.wOf] at hf hb
   have hB:(!decide (((scE (s4 q) (stW (s4 q) w.l sd true 0) 0).length:Int) =0) || !(rdK (s4 q) (stW (s4 q) w.l sd true 0) == decide (q.sa≤IntKind.i64.wrap ((i:Int)+1))) || rdK (s4 q) (stW (s4 q) w.l sd true 0) && !decide (num q.sg (rdV (s4 q) (stW (s4 q) w.l sd true 0)) =num q.sg sd)) =false:=by
    rw [g3,wr_in ((i:Int)+1) (by omega) (by omega)]
    have g4:rdK (s4 q) (stW (s4 q) w.l sd true 0) =decide (q.sa≤(i:Int)+1):=g4
    rw [g4] at g5 ⊢
    by_cases e:q.sa≤(i:Int)+1
    · rw [decide_eq_true e] at g5 ⊢
      rw [g5 rfl,decide_eq_true rfl]; rfl
    · rw [decide_eq_false e]; rfl
   have hm:[[AV.int IntKind.u16 (mS (s4 q) (stW (s4 q) w.l sd true 0) 0)]] = [[AV.int IntKind.u16 0]]:=by rw [g2]
   exact ⟨⟨hn.symm,h.ok,hx⟩,⟨hn.symm,h.ok.hs,hf,hb⟩,λhy=>absurd (hB.symm.trans hy) (by decide),λ_=>⟨⟨q,i+1,a,_,hq,by omega,by omega,hl2,g1⟩,⟨⟨rfl,by rw [wr_succ _ (by omega)]⟩,⟨rfl,rfl,rfl,rfl,rfl,rfl,rfl,rfl,rfl,rfl,rfl,rfl,rfl,of_eq_true (NL.le (PtV.nl _)),rfl,rfl,rfl,rfl,rfl,rfl,rfl,rfl,rfl,rfl,rfl,rfl,rfl⟩,rfl,rfl,hm⟩,by dsimp only; omega⟩⟩
namespace Outliers
open Go.ChangeShapes Go.WideShapes Go.ChangeAt Go.RowKit
open Go.Proofs.YthgmdkokaflgjaaGreatDoor.Dice
open Classical in
noncomputable def CF3 (L Wd:List Int)(sd:Int):List AV→List AV→Option (Prop×AV×List AV):=λ_ ys=>if ys= [.lst [.int .i64 0] (i64s L),.int .u8 sd,.lst [.int .u8 0] (u8s Wd)] then some (True,.bool true,[]) else none
theorem sF3 (L Wd:List Int)(sd:Int)(hr:0≤sd∧sd≤255)(hw:∀ x∈Wd,0≤x∧x≤255):Sound Tryz.prog 3 (.mk false (CF3 L Wd sd)):=
 Qc0 (by kernel_rfl) (Qa0 s6 (Qa0 s7 (Qa0 s8 (Qa0 s9 (Qa0 s10 (Qa0 s11 (Qa0 s12 (Qa0 s13 (Qa0 s14 Qb0))))))))) Tryz.func3 rfl rc3_ok rv3_ok (by
 intro xs q r cs' h _
 unfold CF3 at h
 split at h
 · rename_i e'; subst e'
   cases h
   exact ⟨I3w sd Wd,rfl,Nat.le_of_ble_eq_true rfl,walk3 rfl rfl rfl rfl rfl rfl rfl rfl rfl L Wd sd hr hw⟩
 · cases h)
theorem own:ownKnob Tryz.prog.godebug=none:=by kernel_rfl
theorem laidOut:laidOutB Tryz.prog=true:=by kernel_rfl
set_option maxRecDepth 100000 in
theorem lifted (os:Os)(started:os.Started)(H:Type)(enc:TypeId×Value→H):
 ReturnsInHanded {} Tryz.checked os 3 .any (λw args=>(Rows.topOutliersSpec.pre enc Tryz.prog Tryz.f3 [] false w args∧laidMetH Tryz.prog laidL w)∧sizedMet enc Tryz.prog Tryz.f3 (OpenSpec.ofChange Rows.topOutliersSpec) false w args)
  (Rows.topOutliersSpec.post enc Tryz.prog Tryz.f3 false true false false):=by
 refine returnsInHanded_of_change_and (C:=Tryz.checked) (X:=λw _=>laidMetH Tryz.prog laidL w) (λ_ _ _ hh h=>h.of_heap hh) own started (by kernel_rfl) Tryz.func3
  (ChangeSpec.witness_shaped (enc:=enc) (C:=Tryz.checked) (os:=os) (X:=λw _=>laidMetH Tryz.prog laidL w) false (World.doorLaid Tryz.prog 400 os) #[(.slice none 0 0),(.int .u8 0),(.slice none 0 0)] 8 rfl (World.shaped_of_RefB (by kernel_rfl) (by kernel_rfl)) (by kernel_rfl) (by kernel_rfl) (by kernel_rfl) (door_met os _)) ?_
 intro W base args ds gs before hval0 hW _ _ hL _
 have hval:∀ (j:Nat) t v,Tryz.f3.params[j]? =some t→args[j]? =some v→Value.okWide Tryz.prog W .any base t v:=hval0
 have hW':=hW
 obtain ⟨p,q,hA0,hV,rfl,hfz,hnd⟩:=hW
 have hA:DataW.TrodAll enc Tryz.prog W 0 (λ_=>true) true Tryz.f3.params.toList args.toList ds p:=hA0
 rw [Tryz.params3] at hA hval
 obtain ⟨v0,vs0,d0,ds0,p0,q0,hargs,rfl,rfl,h0,r0⟩:=trodAll_cons hA
 obtain ⟨v1,vs1,d1,ds1,p1,q1,rfl,rfl,rfl,h1,r1⟩:=trodAll_cons r0
 obtain ⟨v2,vs2,d2,ds2,p2,q2,rfl,rfl,rfl,h2,r2⟩:=trodAll_cons r1
 obtain ⟨rfl,rfl,rfl⟩:=trodAll_nil r2
 obtain rfl:args= #[v0,v1,v2]:=by cases args; simp_all
 obtain ⟨rfl,rfl⟩:=trodVars_none hV
 have lt0:∀ x∈p0,x.block < W.heap.size:=by obtain ⟨m,hm⟩:=h0; exact DataW.trod_lt m _ _ _ hm
 have lt1:∀ x∈p1,x.block < W.heap.size:=by obtain ⟨m,hm⟩:=h1; exact DataW.trod_lt m _ _ _ hm
 have lt2:∀ x∈p2,x.block < W.heap.size:=by obtain ⟨m,hm⟩:=h2; exact DataW.trod_lt m _ _ _ hm
 have hZ:∀ b,b < W.heap.size→(λb=>b < W.heap.size) b:=λ_ h=>h
 obtain ⟨a0,l0,w0,e0⟩:=arg_sl hZ Tryz.underlying22 8 (D:=[.int .i64]) (by kernel_rfl) (hval 0 22 v0 rfl rfl) h0
 obtain ⟨a1,w1,e1⟩:=arg_int hZ Tryz.underlying5 (hval 1 5 v1 rfl rfl) h1
 obtain ⟨a2,l2,w2,e2⟩:=arg_sl hZ Tryz.underlying23 8 (D:=[.int .u8]) (by kernel_rfl) (hval 2 23 v2 rfl rfl) h2
 clear hA0 hval0
 obtain ⟨L,rfl⟩:=ex_i64s w0
 obtain ⟨Wd,rfl,hw⟩:=ex_u8s w2
 have hS:=sF3 L Wd a1 (bounds_u8 w1) hw
 have hC:CF3 L Wd a1 [] [.lst [.int .i64 0] (i64s L),.int .u8 a1,.lst [.int .u8 0] (u8s Wd)] =some (True,.bool true,[]):=by simp [CF3]
 have hq:=True.intro
 refine (law_calls hS (of_laid hL) (Reps.cons' e0 (Reps.cons' e1 (Reps.cons' e2 Reps.nil'))) hC hq).mono λe W' ⟨he,bel⟩=>?_
 subst he
 exact ⟨_,rfl,_,_,_,[],_,[],hW',trodAll_mk1 (shut_bool Tryz.underlying4 _),(trodAll_cons_mk (Below.trod laidOut (by kernel_rfl) (of_decide_eq_true (by kernel_rfl)) h0 bel lt0) (trodAll_cons_mk (Below.trod laidOut (by kernel_rfl) (of_decide_eq_true (by kernel_rfl)) h1 bel lt1) (trodAll_cons_mk (Below.trod laidOut (by kernel_rfl) (of_decide_eq_true (by kernel_rfl)) h2 bel lt2) trodAll_mk0))),rfl,bel.frame _,λh=>by cases h⟩
theorem over:Rows.topOutliersRow.holds Tryz.pinned (OpenSpec.ofChange Rows.topOutliersSpec):=
 OpenClaim.holds_of_wide 3 Tryz.f3 rfl rfl rfl rfl rfl rfl rfl ⟨rfl,rfl,rfl,rfl,rfl⟩ rfl rfl rfl rfl rfl (by kernel_rfl) Tryz.func3 (by kernel_rfl)
  (of_decide_eq_true (by kernel_rfl)) (by unfold Func.isWrapper; first | (rw [if_pos (by decide +kernel)]; kernel_rfl) | (rw [if_neg (by decide +kernel)]; exact ⟨rfl,rfl⟩))
  (λos started H enc _=>lifted os started H enc)
theorem proved:Rows.TopOutliersCardSaid:=
 Claim7.holds_tied_plain_at .later [] [.widerDeep] true (true,"ba7e5234d014e39aefa8098911d24cb5691d9f787da6d2c6dc44818642b90ee9") false
  over (λ_ h=>by cases h) (by kernel_rfl) (λ_ h=>by cases h) topOutliers_row_tie rfl ⟨rfl,rfl⟩ (by kernel_rfl) rfl
  (λf fn hf hfn=>by
   obtain rfl:f=3:=Option.some.inj ((show Tryz.prog.funcNamed "baseboard/baseboardtop.TopOutliers" =some 3 by kernel_rfl).symm.trans hf) |>.symm
   obtain rfl:fn=Tryz.f3:=(Option.some.inj (Tryz.func3.symm.trans hfn)).symm
   exact ⟨by kernel_rfl,λj t ht=>by
    rw [Tryz.params3] at ht
    have hm:t∈ [22,5,23]:=by simpa using Array.mem_of_getElem? ht
    have hall:([22,5,23].all λu=>!Tryz.prog.wantsStandIn u) =true:=by kernel_rfl
    exact (show Tryz.prog.wantsStandIn t=false by simpa using List.all_eq_true.1 hall t hm)⟩)
  (by kernel_rfl)
#print axioms proved
end Outliers
end Go.Proofs.YthgmdkokaflgjaaGreatDoor

