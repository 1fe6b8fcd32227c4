/- Law TopTimed: proved as its card says it: for any changes of the clock and of the events, within the laid value of event.offsets; no other condition. -/
import Derived.Test.YthgmdkokaflgjaaGreatDoorPE
import Derived.Test.YthgmdkokaflgjaaGreatDoorPG
import Derived.Test.YthgmdkokaflgjaaGreatDoorPH
import Derived.Test.YthgmdkokaflgjaaGreatDoorRows
import Derived.Test.YthgmdkokaflgjaaGreatDoorTie
import Derived.Test.YthgmdkokaflgjaaGreatDoorCards
import Derived.ProofKit
import Derived.LaidMore
import Derived.OpenShut
import Derived.SevenTiedAt
set_option linter.unusedSimpArgs false
set_option linter.unusedVariables false
set_option linter.unusedSectionVars false
namespace Go.Proofs.YthgmdkokaflgjaaGreatDoor
open Go Go.RowKit Go.Ev
set_option maxRecDepth 20000
set_option maxHeartbeats 4000000
variable {Phi:Nat→Option Ctr}
theorem adU {d:Dv}(h:d.dn=false)(h0:d.lf=0)(e:Ev):(addE (og d) d e).1≠10∧(addE (og d) d e).2.2.lf=0:=
 have:=un_add ⟨h0,h⟩ (og d) e
 ⟨this.1,this.2.1⟩
theorem TJp.step {i k:Nat} {c:Ck} {d:Dv} {tk:List Int} {ad:List Ev}(h:TJp i k c d tk ad)(hk:k < ad.length):
 okA (og d) d (ad.getD k ev0)∧
 ((addE (og d) d (ad.getD k ev0)).1=0→(addE (og d) d (ad.getD k ev0)).2.1=og (addE (og d) d (ad.getD k ev0)).2.2∧(addE (og d) d (ad.getD k ev0)).2.1.rs.length=(og d).rs.length+1∧TJp i (k+1) c ((addE (og d) d (ad.getD k ev0)).2.2.sd false) (tk ++ [c.t]) ad)∧
 ((addE (og d) d (ad.getD k ev0)).1=10→okO ((((addE (og d) d (ad.getD k ev0)).2.2.sd true).res).sd false) 0 4∧
   (((og ((((addE (og d) d (ad.getD k ev0)).2.2.sd true).res).sd false)).rs.length=(og d).rs.length∧TJp i (k+1) c ((((addE (og d) d (ad.getD k ev0)).2.2.sd true).res).sd false) tk ad)∨
    ((og ((((addE (og d) d (ad.getD k ev0)).2.2.sd true).res).sd false)).rs.length=(og d).rs.length+1∧TJp i (k+1) c ((((addE (og d) d (ad.getD k ev0)).2.2.sd true).res).sd false) (tk ++ [c.t]) ad))):=by
 obtain ⟨hd,hto,hi,⟨N,hL⟩,hC,hP⟩:=h
 have hlen:=hP.hlen
 have hE:=hP.ev hk
 obtain ⟨w1,w2,w3⟩:=add_law hL (by omega) hd hto hE.id hE.v (λg a b=>hE.o g a b)
 have ht:(addE (og d) d (ad.getD k ev0)).2.2.to=d.to:=add_to _ _ _
 have hU:=λh0=>adU hd h0 (ad.getD k ev0)
 generalize hr:addE (og d) d (ad.getD k ev0) =r at w2 w3 ht hU ⊢
 refine ⟨w1,λh0=>?_,λh1=>?_⟩
 · obtain ⟨x1,⟨M,x2⟩,x3⟩:=w2 h0
   have xl:=congrArg List.length x3
   simp only [List.length_map,List.length_append,List.length_singleton] at xl
   refine ⟨x1,by rw [x1]; exact xl,rfl,by rw [Dv.sd_to,ht]; exact hto,hi,⟨M,Ls_sd false x2⟩,hC,?_⟩
   rw [og_sd,x3]
   exact hP.put (og d) hk λh0=>(hU h0).2
 · obtain ⟨⟨M,x2⟩,x3⟩:=w3 h1
   have hne:d.lf≠0:=λh0=>(hU h0).1 h1
   have ho:og ((r.2.2.sd true).res.sd false) =og r.2.2:=og_eq rfl rfl
   have hL':Ls ((r.2.2.sd true).res.sd false) (2 * i+(k+1)) M:=Ls_sd false (Ls_res (Ls_sd true x2))
   have hto':0≤((r.2.2.sd true).res.sd false).to∧((r.2.2.sd true).res.sd false).to≤255:=by
    show 0≤r.2.2.to∧r.2.2.to≤255
    rw [ht]; exact hto
   refine ⟨hL'.la.gd.okO,?_⟩
   rcases x3 with x3 | x3
   · have xl:=congrArg List.length x3
     simp only [List.length_map] at xl
     refine .inl ⟨by rw [ho]; exact xl,rfl,hto',hi,⟨M,hL'⟩,hC,?_⟩
     rw [ho,x3]
     exact hP.lost hk hne
   · have xl:=congrArg List.length x3
     simp only [List.length_map,List.length_append,List.length_singleton] at xl
     refine .inr ⟨by rw [ho]; exact xl,rfl,hto',hi,⟨M,hL'⟩,hC,?_⟩
     rw [ho,x3]
     exact hP.put (og d) hk λh0=>absurd h0 hne
theorem arm_lf0 {d:Dv}(h:d.dn=false):(d.arm 0 0).lf=0∧(d.arm 0 0).to=0:=by
 rw [Dv.arm,if_neg (by rw [h]; decide)]
 exact ⟨rfl,rfl⟩
theorem arm_to {d:Dv}(h:d.dn=false)(n t:Int):(d.arm n t).to=t:=by
 rw [Dv.arm,if_neg (by rw [h]; decide)]
theorem L5p (l:List Tn)(hl:l.length≤60)(hu:∀ x∈l,0≤x.tm∧x.tm≤4294967295∧0≤x.to∧x.to≤255):L5 l TIp TJp:=by
 have gu:∀ i,i < l.length→0≤(l.getD i tn0).tm∧(l.getD i tn0).tm≤4294967295∧0≤(l.getD i tn0).to∧(l.getD i tn0).to≤255:=by
  intro i hi
  rw [List.getD_eq_getElem?_getD,List.getElem?_eq_getElem hi]
  exact hu _ (List.getElem_mem hi)
 have dn_sd:∀ {d:Dv},d.dn=false→d.sd false=d:=λh=>Dv.sd_self h
 refine ⟨TIp.init,λh=>h.ok,?_,?_,?_,?_,?_,?_,?_,λh=>h.fin⟩
 ·
  intro i c d tk h hi _
  obtain ⟨hU,hto,⟨N,hL⟩,hT,hC⟩:=h
  obtain ⟨u1,u2,_,_⟩:=gu i hi
  have hm:(l.getD i tn0).tm.tmod 2000000000=(l.getD i tn0).tm % 2000000000:=Int.tmod_eq_emod_of_nonneg u1
  have n0:0≤(l.getD i tn0).tm.tmod 2000000000:=by rw [hm]; omega
  have n1:(l.getD i tn0).tm.tmod 2000000000 < 2000000000:=by rw [hm]; omega
  generalize (l.getD i tn0).tm.tmod 2000000000=n at n0 n1 ⊢
  obtain ⟨q1,q2,q3,q4⟩:=hC.adj (n:=n) (by omega) n0 n1
  obtain ⟨s1,s2,s3⟩:=hC.secs
  rw [q2,q3,s1]
  refine ⟨q1,hU.2,hto,by omega,⟨N,Ls_mono hL (by omega)⟩,q4,?_⟩
  exact Ph.s0 c (c.t / 10+c.b) n hU.1 rfl hC.t0 rfl (by show n=c.t / 10+(n - c.t / 10); omega) ⟨s2,s3⟩ ⟨n0,by omega⟩ hT
 ·
  intro i c d tk h hi _
  obtain ⟨hU,hto,⟨N,hL⟩,hT,hC⟩:=h
  obtain ⟨_,_,u3,u4⟩:=gu i hi
  obtain ⟨m0,m1⟩:=modI_bd (n:=(l.getD i tn0).ti) (m:=100000) (by decide) (by decide)
  generalize modI (l.getD i tn0).ti 100000=n at m0 m1 ⊢
  obtain ⟨q1,q2,q4⟩:=hC.adv (n:=n) (by omega) m0 m1
  obtain ⟨s1,s2,s3⟩:=q4.secs
  have hst:stamp ⟨c.t+n,c.b,c.s⟩ =(c.t+n) / 10+c.b:=by rw [stamp,if_pos q4.v,s1]
  rw [q2]
  have hph:∀ lf:Int,Ph ⟨c.t+n,c.b,c.s⟩ lf ((og d).rs.map Rc.e) tk 0 [evA (stamp ⟨c.t+n,c.b,c.s⟩)]:=λlf=>by
   rw [hst]
   exact Ph.a0 c _ rfl ⟨s2,s3⟩ rfl hC.t0 (by show c.t≤c.t+n; omega) hT
  refine ⟨q1,by rw [stampE,if_pos q4.v],λ_=>⟨hU.2,hto,by omega,⟨N,Ls_mono hL (by omega)⟩,q4,hph _⟩,λ_=>⟨rfl,?_,by omega,⟨N,Ls_sd false (Ls_arm _ _ (Ls_sd false (Ls_mono hL (by omega))))⟩,q4,?_⟩⟩
  · rw [Dv.sd_to,arm_to rfl]; exact ⟨u3,u4⟩
  · rw [og_sd,og_arm,og_sd]; exact hph _
 · intro i k c d tk ad h
   obtain ⟨hd,hto,hi,⟨N,hL⟩,hC,hP⟩:=h
   have h1:=hP.hlen
   have h2:=hL.len
   rw [List.length_map] at h1
   exact ⟨h1.2.1,hd,by omega,by omega⟩
 · intro i k c d tk ad h hk
   have:=(h.step hk).1
   rw [dn_sd h.1]; exact this
 · intro i k c d tk ad h hk h0
   rw [dn_sd h.1] at h0 ⊢
   obtain ⟨x1,x2,x3⟩:=(h.step hk).2.1 h0
   exact ⟨by rw [og_sd]; exact x1,x2,x3⟩
 · intro i k c d tk ad h hk h0
   rw [dn_sd h.1] at h0 ⊢
   exact (h.step hk).2.2 h0
 · intro i k c d tk ad h hk hi
   obtain ⟨hd,hto,hi,⟨N,hL⟩,hC,hP⟩:=h
   have hlen:=hP.hlen
   have hd':(d.sd false).dn=false:=rfl
   obtain ⟨r1,r2⟩:=arm_lf0 hd'
   have ho:og (((d.sd false).arm 0 0).sd false) =og d:=by rw [og_sd,og_arm,og_sd]
   refine ⟨⟨⟨by rw [Dv.sd_lf]; exact r1,rfl⟩,by rw [Dv.sd_to,r2]; decide,⟨N,Ls_mono (Ls_sd false (Ls_arm 0 0 (Ls_sd false hL))) (by omega)⟩,by rw [ho]; exact hP.fin hk,hC⟩,ho⟩
theorem gr_of_gr {P:Program} {f:FuncId} {ι κ:Type} {ho ho':List Nat} {fz fz':Bool} {D:List (Nat×Blk)→List AV→Option (Prop×(ι→Prop×AV×List (Nat×Blk)))} {E:List (Nat×Blk)→List AV→Option (Prop×(κ→Prop×AV×List (Nat×Blk)))}(h:Sound P f (.gr ι ho fz D))
 (hd:∀ bs xs q g,E bs xs=some (q,g)→q→∃ q' g',D bs xs=some (q',g')∧q'∧∀ i,(g' i).1→∃ j,(g j).1∧(g j).2=(g' i).2):Sound P f (.gr κ ho' fz' E):=by
 intro Z w θ bs xs vs q g hz hgl hin hr hE hq
 obtain ⟨q',g',hD,hq',hj⟩:=hd bs xs q g hE hq
 refine (h Z w θ bs xs vs q' g' hz hgl hin hr hD hq').mono ?_
 rintro e w' ⟨i,v,Z',θ',h1,h2,h3,h4,h5,h6,h7,h8⟩
 obtain ⟨j,j1,j2⟩:=hj i h1
 exact ⟨j,v,Z',θ',j1,h2,h3,h4,h5,h6,by rw [j2]; exact h7,by rw [j2]; exact h8⟩
theorem s94:Sound Tryz.prog 94 CStep:=soundG (by kernel_rfl) Qc0 Tryz.func94 rfl rc94_ok rv94_ok (by
 intro bs xs q g h hq
 split at h
 · skip
   cases h
   generalize Dv.de bs=d at *
   subst hq
   exact ⟨noI,λ_ _=>rfl,Nat.le_of_ble_eq_true rfl,walk94  d⟩
 · cases h
 )
theorem s86:Sound Tryz.prog 86 CWth:=Qb0 (by kernel_rfl) Qc0 Tryz.func86 rfl rc86_ok rv86_ok (by
 intro xs q r cs' h hq
 split at h
 · rename_i zz c0 z es c2 c3 c4 c5 c6 a n
   cases h
   obtain ⟨rfl,⟨rfl,he⟩,hl⟩:=hq
   obtain ⟨L,rfl⟩:∃ L,es=u8s L:=⟨_,he⟩
   simp only [Qg0,u8s_len] at *
   exact ⟨noI,rfl,Nat.le_of_ble_eq_true rfl,walk86  (.int .i64 c0) c3 c4 c5 c2 c6 L a n hl⟩
 · cases h
 )
theorem s45:Sound Tryz.prog 45 CSec:=Qb0 (by kernel_rfl) Qc0 Tryz.func45 rfl rc45_ok rv45_ok (by
 intro xs q r cs' h hq
 split at h
 · rename_i zz c0 c1 z ws c3 c4 c5 c6
   cases h
   subst hq
   exact ⟨noI,rfl,Nat.le_of_ble_eq_true rfl,walk45  (.int .i64 c0) c1 c3 c4 c5 c6 z ws⟩
 · cases h
 )
theorem s47:Sound Tryz.prog 47 CSiz:=Qb0 (by kernel_rfl) Qc0 Tryz.func47 rfl rc47_ok rv47_ok (by
 intro xs q r cs' h hq
 split at h
 · rename_i zz sz c1 c2 c3 c4 c5 c6
   cases h
   subst hq
   exact ⟨noI,rfl,Nat.le_of_ble_eq_true rfl,walk47  sz c1 c2 c3 c4 c5 c6⟩
 · cases h
 )
theorem s92:Sound Tryz.prog 92 CDn:=Qb0 (by kernel_rfl) Qc0 Tryz.func92 rfl rc92_ok rv92_ok (by
 intro xs q r cs' h hq
 split at h
 · rename_i zz c0 c1 c2 c3 c4 c5 dn
   cases h
   subst hq
   exact ⟨noI,rfl,Nat.le_of_ble_eq_true rfl,walk92  dn c0 c1 c2 c3 c4 c5⟩
 · cases h
 )
theorem s22x:Sound Tryz.prog 22 CArm:=soundG (by kernel_rfl) Qc0 Tryz.func22 rfl rc22_ok rv22_ok (by
 intro bs xs q g h hq
 split at h
 · rename_i n t
   cases h
   generalize Dv.de bs=d at *
   subst hq
   exact ⟨noI,λ_ _=>rfl,Nat.le_of_ble_eq_true rfl,walk22  d n t⟩
 · cases h
 )
theorem s25:Sound Tryz.prog 25 CRes:=soundG (by kernel_rfl) Qc0 Tryz.func25 rfl rc25_ok rv25_ok (by
 intro bs xs q g h hq
 split at h
 · skip
   cases h
   generalize Dv.de bs=d at *
   subst hq
   exact ⟨noI,λ_ _=>rfl,Nat.le_of_ble_eq_true rfl,walk25  d⟩
 · cases h
 )
theorem s87:Sound Tryz.prog 87 DCb:=Zj0 (by kernel_rfl) Qc0 Tryz.func87 rfl rc87_ok rv87_ok (by
 intro xs q g h hq
 split at h
 · rename_i zz es
   cases h
   obtain ⟨⟨rfl,he⟩,hl⟩:=hq
   obtain ⟨L,rfl⟩:∃ L,es=u8s L:=⟨_,he⟩
   simp only [Qg0,u8s_len] at *
   exact ⟨noI,Nat.le_of_ble_eq_true rfl,walk87  L hl⟩
 · cases h
 )
theorem s46x:Sound Tryz.prog 46 CRead:=soundG (by kernel_rfl) (Qa0 s86 (Qa0 s87 Qc0)) Tryz.func46 rfl rc46_ok rv46_ok (by
 intro bs xs q g h hq
 split at h
 · rename_i a n
   cases h
   obtain ⟨hb,hl,he⟩:=hq
   generalize Dv.de bs=d at *
   subst hb
   exact ⟨noI,λ_ _=>rfl,Nat.le_of_ble_eq_true rfl,walk46 rfl rfl d a n hl he⟩
 · cases h
 )
theorem s58x:Sound Tryz.prog 58 CProg:=soundG (by kernel_rfl) (Qa0 s86 (Qa0 s94 Qc0)) Tryz.func58 rfl rc58_ok rv58_ok (by
 intro bs xs q g h hq
 split at h
 · rename_i a z es
   cases h
   obtain ⟨hb,⟨rfl,he⟩,hl,hd⟩:=hq
   obtain ⟨L,rfl⟩:∃ L,es=u8s L:=⟨_,he⟩
   simp only [Qg0,u8s_len] at *
   generalize Dv.de bs=d at *
   subst hb
   exact ⟨I58 d a L,λ_ _=>rfl,Nat.le_of_ble_eq_true rfl,walk58 rfl rfl d a L hl hd⟩
 · cases h
 )
theorem s114x:Sound Tryz.prog 114 CEr:=soundG (by kernel_rfl) (Qa0 s94 Qc0) Tryz.func114 rfl rc114_ok rv114_ok (by
 intro bs xs q g h hq
 split at h
 · rename_i s
   cases h
   obtain ⟨hb,hl,hw,h0,h1,he⟩:=hq
   generalize Dv.de bs=d at *
   subst hb
   exact ⟨I114 d s,λ_ _=>rfl,Nat.le_of_ble_eq_true rfl,walk114 rfl d s hl hw h0 h1 he⟩
 · cases h
 )
theorem de_of_gr (d:Dv):Dv.de d.gr=d:=by simp only [Dv.gr,Dv.cs,Dv.de_gr,Qg0,Qn0,Dv.eta]
theorem s58:Sound Tryz.prog 58 CProgB:=gr_of_gr s58x (by
 intro bs xs q g h hq
 split at h
 · rename_i a z es
   cases h
   obtain ⟨hb,hz,hl,hd,hw⟩:=hq
   generalize hd0:(Dv.de bs).sd false=d0 at hb
   have e:Dv.de bs=d0:=by rw [hb]; exact de_of_gr d0
   have hdn:d0.dn=false:=by rw [← hd0]; rfl
   rw [e] at hd hw
   refine ⟨_,_,rfl,⟨by rw [e]; exact hb,hz,hl,by rw [e]; exact hd⟩,λ_ _=>?_⟩
   dsimp only
   rw [e]
   rcases Dv.prog_dn hdn hw with ⟨p1,p2⟩ | ⟨p1,p2⟩
   · exact ⟨false,p1,by rw [p1,Dv.sd_self p2]; rfl⟩
   · exact ⟨true,p1,by rw [p1,Dv.sd_self p2]; rfl⟩
 · cases h)
theorem s114:Sound Tryz.prog 114 CErB:=gr_of_gr s114x (by
 intro bs xs q g h hq
 split at h
 · rename_i s
   cases h
   obtain ⟨hb,ho,h0,h1⟩:=hq
   generalize hd0:(Dv.de bs).sd false=d0 at hb
   have e:Dv.de bs=d0:=by rw [hb]; exact de_of_gr d0
   have hdn:d0.dn=false:=by rw [← hd0]; rfl
   rw [e] at ho h1
   obtain ⟨o1,o2,o3,o4,o5⟩:=ho
   refine ⟨_,_,rfl,?_,λ_ _=>?_⟩
   · try dsimp only
     rw [e]
     exact ⟨hb,o1,o2,by omega,o4,o5⟩
   · try dsimp only
     rw [e]
     rcases Dv.erase_dn hdn ⟨h0,h1⟩ with ⟨p1,p2⟩ | ⟨p1,p2⟩
     · exact ⟨false,p1,by rw [p1,Dv.sd_self p2]; rfl⟩
     · exact ⟨true,p1,by rw [p1,Dv.sd_self p2]; rfl⟩
 · cases h)
theorem s46:Sound Tryz.prog 46 CReadB:=gr_of_gr s46x (by
 intro bs xs q g h hq
 split at h
 · rename_i a n
   cases h
   obtain ⟨hb,hl,hw⟩:=hq
   generalize hd0:(Dv.de bs).sd false=d0 at hb
   have e:Dv.de bs=d0:=by rw [hb]; exact de_of_gr d0
   have hdn:d0.dn=false:=by rw [← hd0]; rfl
   rw [e] at hl hw
   refine ⟨_,_,rfl,?_,λ_ _=>?_⟩
   · try dsimp only
     rw [e]
     exact ⟨hb,hl,by rw [Dv.rdE,if_neg (by rw [hdn]; decide),if_pos hw]⟩
   · try dsimp only
     rw [e]
     exact ⟨(),trivial,rfl⟩
 · cases h)
theorem s54:Sound Tryz.prog 54 CVE:=Qb0 (by kernel_rfl) Qc0 Tryz.func54 rfl rc54_ok rv54_ok (by
 intro xs q r cs' h hq
 split at h
 · rename_i id t g st sn ty de a b c
   cases h
   exact ⟨noI,rfl,Nat.le_of_ble_eq_true rfl,walk54  ⟨id,t,g,st,sn,ty,de,a,b,c⟩⟩
 · cases h
 )
theorem s57:Sound Tryz.prog 57 DEn:=Zj0 (by kernel_rfl) (Qa0 s54 Qc0) Tryz.func57 rfl rc57_ok rv57_ok (by
 intro xs q g h hq
 split at h
 · rename_i id t g st sn ty de a b c
   cases h
   exact ⟨noI,Nat.le_of_ble_eq_true rfl,walk57 rfl ⟨id,t,g,st,sn,ty,de,a,b,c⟩ hq⟩
 · cases h
 )
theorem s115x:Sound Tryz.prog 115 DW4:=Zj0 (by kernel_rfl) Qc0 Tryz.func115 rfl rc115_ok rv115_ok (by
 intro xs q g h hq
 split at h
 · rename_i n
   cases h
   exact ⟨noI,Nat.le_of_ble_eq_true rfl,walk115  n⟩
 · cases h
 )
theorem s115:Sound Tryz.prog 115 CW4:=own_of_ext s115x (by
 intro xs q es h
 split at h
 · cases h
   exact ⟨_,rfl,rfl⟩
 · cases h)
theorem s55:Sound Tryz.prog 55 CSl:=Qb0 (by kernel_rfl) Qc0 Tryz.func55 rfl rc55_ok rv55_ok (by
 intro xs q r cs' h hq
 split at h
 · rename_i x
   cases h
   exact ⟨noI,rfl,Nat.le_of_ble_eq_true rfl,walk55  x⟩
 · cases h
 )
theorem s59:Sound Tryz.prog 59 CBe:=Qb0 (by kernel_rfl) Qc0 Tryz.func59 rfl rc59_ok rv59_ok (by
 intro xs q r cs' h hq
 split at h
 · rename_i x
   cases h
   exact ⟨noI,rfl,Nat.le_of_ble_eq_true rfl,walk59  x⟩
 · cases h
 )
theorem s88:Sound Tryz.prog 88 CR4:=Qb0 (by kernel_rfl) Qc0 Tryz.func88 rfl rc88_ok rv88_ok (by
 intro xs q r cs' h hq
 split at h
 · rename_i zz es
   cases h
   obtain ⟨⟨rfl,he⟩,hl⟩:=hq
   obtain ⟨L,rfl⟩:∃ L,es=u8s L:=⟨_,he⟩
   simp only [Qg0,u8s_len] at *
   exact ⟨noI,rfl,Nat.le_of_ble_eq_true rfl,walk88  L hl⟩
 · cases h
 )
theorem s89:Sound Tryz.prog 89 CSlot:=Qb0 (by kernel_rfl) Qc0 Tryz.func89 rfl rc89_ok rv89_ok (by
 intro xs q r cs' h hq
 split at h
 · rename_i zz es i
   cases h
   obtain ⟨⟨rfl,he⟩,hl,h0,h1⟩:=hq
   obtain ⟨L,rfl⟩:∃ L,es=u8s L:=⟨_,he⟩
   simp only [Qg0,u8s_len] at *
   exact ⟨noI,rfl,Nat.le_of_ble_eq_true rfl,walk89  L i hl h0 h1⟩
 · cases h
 )
theorem s113:Sound Tryz.prog 113 CNf:=Qb0 (by kernel_rfl) Qc0 Tryz.func113 rfl rc113_ok rv113_ok (by
 intro xs q r cs' h hq
 split at h
 · rename_i x
   cases h
   exact ⟨noI,rfl,Nat.le_of_ble_eq_true rfl,walk113  x⟩
 · cases h
 )
theorem s126:Sound Tryz.prog 126 CIx:=Qb0 (by kernel_rfl) (Qa0 s113 Qc0) Tryz.func126 rfl rc126_ok rv126_ok (by
 intro xs q r cs' h hq
 split at h
 · rename_i zz es
   cases h
   obtain ⟨⟨rfl,he⟩,hl⟩:=hq
   obtain ⟨L,rfl⟩:∃ L,es=u8s L:=⟨_,he⟩
   simp only [Qg0,u8s_len] at *
   exact ⟨I126 L,rfl,Nat.le_of_ble_eq_true rfl,walk126 rfl L hl⟩
 · cases h
 )
theorem s112:Sound Tryz.prog 112 CCo:=Qb0 (by kernel_rfl) (Qa0 s126 Qc0) Tryz.func112 rfl rc112_ok rv112_ok (by
 intro xs q r cs' h hq
 split at h
 · rename_i zz es
   cases h
   obtain ⟨⟨rfl,he⟩,hl⟩:=hq
   obtain ⟨L,rfl⟩:∃ L,es=u8s L:=⟨_,he⟩
   simp only [Qg0,u8s_len] at *
   exact ⟨noI,rfl,Nat.le_of_ble_eq_true rfl,walk112 rfl L hl⟩
 · cases h
 )
theorem s90:Sound Tryz.prog 90 CBl:=Qb0 (by kernel_rfl) (Qa0 s112 Qc0) Tryz.func90 rfl rc90_ok rv90_ok (by
 intro xs q r cs' h hq
 split at h
 · rename_i zz es
   cases h
   obtain ⟨⟨rfl,he⟩,hl⟩:=hq
   obtain ⟨L,rfl⟩:∃ L,es=u8s L:=⟨_,he⟩
   simp only [Qg0,u8s_len] at *
   exact ⟨noI,rfl,Nat.le_of_ble_eq_true rfl,walk90 rfl L hl⟩
 · cases h
 )
theorem s111:Sound Tryz.prog 111 CMl:=Qb0 (by kernel_rfl) Qc0 Tryz.func111 rfl rc111_ok rv111_ok (by
 intro xs q r cs' h hq
 split at h
 · rename_i a b
   cases h
   obtain ⟨rfl,hb⟩:=hq
   exact ⟨noI,rfl,Nat.le_of_ble_eq_true rfl,walk111  b hb⟩
 · cases h
 )
theorem s85:Sound Tryz.prog 85 CMl:=Qb0 (by kernel_rfl) (Qa0 s111 Qc0) Tryz.func85 rfl rc85_ok rv85_ok (by
 intro xs q r cs' h hq
 split at h
 · rename_i a b
   cases h
   obtain ⟨rfl,hb⟩:=hq
   exact ⟨noI,rfl,Nat.le_of_ble_eq_true rfl,walk85 rfl b hb⟩
 · cases h
 )
theorem s44x:Sound Tryz.prog 44 DRp:=Zj0 (by kernel_rfl) (Qa0 s85 Qc0) Tryz.func44 rfl rc44_ok rv44_ok (by
 intro xs q g h hq
 split at h
 · rename_i zz es n
   cases h
   obtain ⟨⟨rfl,rfl⟩,hn⟩:=hq
   obtain ⟨c,rfl⟩:∃ c:Nat,n=c:=⟨n.toNat,by omega⟩
   simp only [Int.toNat_natCast] at *
   exact ⟨I44 c,Nat.le_of_ble_eq_true rfl,walk44 rfl c hn⟩
 · cases h
 )
theorem s44:Sound Tryz.prog 44 CRp:=own_of_ext s44x (by
 intro xs q es h
 split at h
 · cases h
   exact ⟨_,rfl,rfl⟩
 · cases h)
theorem s17:Sound Tryz.prog 17 CNewD:=soundG (by kernel_rfl) (Qa0 s44 Qc0) Tryz.func17 rfl rc17_ok rv17_ok (by
 intro bs xs q g h hq
 split at h
 · rename_i n sz
   cases h
   obtain ⟨rfl,h⟩:=hq
   exact ⟨noI,λ_ _=>rfl,Nat.le_of_ble_eq_true rfl,walk17 rfl n sz h⟩
 · cases h
 )
theorem s91:Sound Tryz.prog 91 CDc:=Qb0 (by kernel_rfl) (Qa0 s54 Qc0) Tryz.func91 rfl rc91_ok rv91_ok (by
 intro xs q r cs' h hq
 split at h
 · rename_i zz es
   cases h
   obtain ⟨⟨rfl,he⟩,hl⟩:=hq
   obtain ⟨L,rfl⟩:∃ L,es=u8s L:=⟨_,he⟩
   simp only [Qg0,u8s_len] at *
   exact ⟨noI,rfl,Nat.le_of_ble_eq_true rfl,walk91 rfl L hl⟩
 · cases h
 )
theorem s48:Sound Tryz.prog 48 CHd:=Qb0 (by kernel_rfl) (Qa0 s88 Qc0) Tryz.func48 rfl rc48_ok rv48_ok (by
 intro xs q r cs' h hq
 split at h
 · rename_i yy c0 c1 se c3 c4 c5 c6 c7 r c9 c10 c11 c12 zz es j
   cases h
   obtain ⟨rfl,⟨⟨rfl,he⟩,hl⟩,hs⟩:=hq
   obtain ⟨L,rfl⟩:∃ L,es=u8s L:=⟨_,he⟩
   simp only [Qg0,u8s_len] at *
   exact ⟨noI,rfl,Nat.le_of_ble_eq_true rfl,walk48 rfl c0 c1 c3 c4 c5 c6 c7 c9 c10 c11 c12 se r L j hl hs⟩
 · cases h
 )
theorem s23:Sound Tryz.prog 23 CLen:=Qb0 (by kernel_rfl) Qc0 Tryz.func23 rfl rc23_ok rv23_ok (by
 intro xs q r cs' h hq
 split at h
 · rename_i yy c0 c1 se c3 c4 c5 c6 c7 c9 c10 c11 c12
   cases h
   subst hq
   exact ⟨noI,rfl,Nat.le_of_ble_eq_true rfl,walk23n c0 c1 c3 c4 c5 c6 c7 c9 c10 c11 c12 se⟩
 · rename_i yy c0 c1 se c3 c4 c5 c6 c7 zz es c9 c10 c11 c12
   cases h
   subst hq
   exact ⟨noI,rfl,Nat.le_of_ble_eq_true rfl,walk23l c0 c1 c3 c4 c5 c6 c7 c9 c10 c11 c12 se zz es⟩
 · cases h
 )
theorem s117:Sound Tryz.prog 117 CLt:=Qb0 (by kernel_rfl) Qc0 Tryz.func117 rfl rc117_ok rv117_ok (by
 intro xs q r cs' h hq
 split at h
 · rename_i q id t g st sn ty de a b c k' k
   cases h
   exact ⟨noI,rfl,Nat.le_of_ble_eq_true rfl,walk117  ⟨q,⟨id,t,g,st,sn,ty,de,a,b,c⟩⟩ k k'⟩
 · cases h
 )
theorem walk93r (P47:Phi 47=some CSiz)(P46:Phi 46=some CReadB)(P90:Phi 90=some CBl)(P114:Phi 114=some CErB)(P115:Phi 115=some CW4)(P58:Phi 58=some CProgB)(P116:Phi 116=some CDf)(g:Lg)(d:Dv)(t:Int)(h:okG g d)(hk:keeps g.rs t):evC Phi (noI) rc93 ⟨initS [.ptr 0 0,.int .i64 t],lookM (grR g (d.sd false))⟩ (kRetG rv93 (λb=>((opn g (d.sd false) t).1=eno b,.int .i64 (eno b),match b with | false=>grR (g.op t) ((opn g (d.sd false) t).2.sd false) | true=>grR g ((opn g (d.sd false) t).2.sd true)))):=by
 simp (maxSteps:=2000000) only [rc93,bA93_47,bO93_47,bB93_47,bA93_88,bO93_88,bB93_88,grR,Lg.cs,Dv.cs,Dv.sd_sz,Dv.sd_st,Dv.sd_lf,Dv.sd_to,Dv.sd_dn,Dv.sd_by,Dv.sd_wr,rv93,pk,un,Nat.reduceMul,Nat.reduceAdd,Nat.reduceEqDiff,↓reduceIte,↓Bool.exists_bool,eno_f,eno_t,P47,CSiz,barl93_47,P46,CReadB,Dv.gr,Nat.reduceLT,Nat.reduceLeDiff,Nat.reduceBEq,Dv.de_gr,Qg0,Qn0,Dv.sd_mk,Option.isSome_some,P90,CBl,Bool.not_not,P114,CErB,↓Bool.forall_bool,barl93_88,P115,CW4,u8s_join,u8s_snoc2,P58,CProgB,decU_cons,decU_nil,P116,CDf,Zv0,rcs_len,dec10]
 have ho:=opS_bd h
 obtain ⟨⟨h1,h2,h3,h4,h5⟩,h6,h7,h8,h9,h10,h11,h12⟩:=id h
 have e1:IntKind.i64.wrap (g.nw+1) =g.nw+1:=wr_in _ (by omega) (by omega)
 have e2:IntKind.i64.wrap (g.nw+1 - 1) =g.nw:=by rw [wr_in _ (by omega) (by omega)]; omega
 have e3:IntKind.i64.wrap (g.fi+g.nw.tmod g.se) =opS g:=wr_in _ (by have:=ho.1; unfold opS at this; omega) (by have:=ho.2.1; unfold opS at this; omega)
 have e4:IntKind.i64.wrap (opS g * d.sz) =opS g * d.sz:=wr_in _ (by omega) (by omega)
 have e5:IntKind.i64.wrap (opS g * d.sz+10) =opS g * d.sz+10:=wr_in _ (by omega) (by omega)
 have e6:w4 (g.nw+1) ++ w4 t ++ [IntKind.u8.wrap g.nx,IntKind.u8.wrap (g.nx.fdiv (2 ^ 8))] =opH g t:=rfl
 simp only [e1,e2,e3,e4,e5,e6]
 have hA:opA g (d.sd false) =opS g * d.sz:=rfl
 have hR:((d.sd false).rdB (opS g * d.sz) d.sz).length≤1000000:=by
  unfold Dv.rdB
  split
  · exact Nat.zero_le _
  · split
    · simp only [List.length_take,List.length_drop,Dv.sd_by]; omega
    · exact Nat.zero_le _
 refine ⟨λh0=>absurd (of_decide_eq_true h0) (by omega),λ_=>⟨by omega,⟨h1,Dv.wth_of ho.2.2.1 (by omega) ho.2.2.2 h1⟩,λ_=>⟨hR,λhb=>⟨⟨⟨h1,h2,h3,h4,h5⟩,ho.1,ho.2.1⟩,λhE=>?_,λhE=>?_⟩,λhb=>?_⟩⟩⟩
 · have hd:((d.sd false).erase (opS g)).2.dn=false:=by
    rcases Dv.erase_dn (d:=d.sd false) (s:=opS g) rfl ⟨ho.1,ho.2.1⟩ with ⟨_,h'⟩ | ⟨h',_⟩
    · exact h'
    · omega
   have hle:((d.sd false).erase (opS g)).2.by'.length=d.by'.length:=(Dv.erase_len (d.sd false) (opS g)).1
   rw [Dv.sd_self hd]
   have hw1:((d.sd false).erase (opS g)).2.wth (opS g * d.sz) ((opH g t).length:Nat) =true:=Dv.wth_of ho.2.2.1 (by omega) (by rw [opH_len]; omega) (by omega)
   have hl:(((d.sd false).erase (opS g)).2.prog (opS g * d.sz) (opH g t)).2.by'.length=d.by'.length:=(Dv.prog_len ((d.sd false).erase (opS g)).2 (opS g * d.sz) (opH g t)).1.trans hle
   refine ⟨by simp [w4],by simp [w4],by simp [w4],by simp [w4],⟨by rw [opH_len]; decide,by show ((d.sd false).erase (opS g)).2.by'.length≤1000000; omega,hw1⟩,λhp=>?_,λhp=>?_⟩
   · have hq:(((d.sd false).erase (opS g)).2.prog (opS g * d.sz) (opH g t)).2.dn=false:=by
      rcases Dv.prog_dn (a:=opS g * d.sz) (l:=opH g t) hd hw1 with ⟨_,h'⟩ | ⟨h',_⟩
      · exact h'
      · omega
     rw [Dv.sd_self hq]
     refine ⟨⟨rfl,by rw [hl]; exact h1,Dv.wth_of (by omega) (by omega) (by rw [hl]; omega) (by rw [hl]; exact h1)⟩,λhx=>?_,λhx=>?_⟩
     · have hm:opn g (d.sd false) t=(((d.sd false).erase (opS g)).2.prog (opS g * d.sz) (opH g t)).2.prog (opS g * d.sz+10) [0]:=(opn_1 hb hE).trans (op2_t hp)
       refine ⟨⟨h12,hk⟩,?_⟩
       simp only [hm,hx,Lg.op,and_self,true_or,forall_const]
     · have hm:opn g (d.sd false) t=(((d.sd false).erase (opS g)).2.prog (opS g * d.sz) (opH g t)).2.prog (opS g * d.sz+10) [0]:=(opn_1 hb hE).trans (op2_t hp)
       simp only [hm,hx,Lg.op,and_self,or_true,forall_const]
   · have hm:opn g (d.sd false) t=((d.sd false).erase (opS g)).2.prog (opS g * d.sz) (opH g t):=(opn_1 hb hE).trans (op2_f hp)
     simp only [hm,hp,Lg.op,and_self,or_true,forall_const]
 · have hm:opn g (d.sd false) t=(d.sd false).erase (opS g):=opn_2 hb hE
   simp only [hm,hE,Lg.op,and_self,or_true,forall_const]
 · have hle:(d.sd false).by'.length=d.by'.length:=rfl
   have hw1:(d.sd false).wth (opS g * d.sz) ((opH g t).length:Nat) =true:=Dv.wth_of ho.2.2.1 (by omega) (by rw [opH_len]; omega) (by omega)
   have hl:((d.sd false).prog (opS g * d.sz) (opH g t)).2.by'.length=d.by'.length:=(Dv.prog_len (d.sd false) (opS g * d.sz) (opH g t)).1.trans hle
   refine ⟨by simp [w4],by simp [w4],by simp [w4],by simp [w4],⟨by rw [opH_len]; decide,by show (d.sd false).by'.length≤1000000; omega,hw1⟩,λhp=>?_,λhp=>?_⟩
   · have hq:((d.sd false).prog (opS g * d.sz) (opH g t)).2.dn=false:=by
      rcases Dv.prog_dn (a:=opS g * d.sz) (l:=opH g t) (rfl:(d.sd false).dn=false) hw1 with ⟨_,h'⟩ | ⟨h',_⟩
      · exact h'
      · omega
     rw [Dv.sd_self hq]
     refine ⟨⟨rfl,by rw [hl]; exact h1,Dv.wth_of (by omega) (by omega) (by rw [hl]; omega) (by rw [hl]; exact h1)⟩,λhx=>?_,λhx=>?_⟩
     · have hm:opn g (d.sd false) t=((d.sd false).prog (opS g * d.sz) (opH g t)).2.prog (opS g * d.sz+10) [0]:=(opn_3 hb).trans (op2_t hp)
       refine ⟨⟨h12,hk⟩,?_⟩
       simp only [hm,hx,Lg.op,and_self,true_or,forall_const]
     · have hm:opn g (d.sd false) t=((d.sd false).prog (opS g * d.sz) (opH g t)).2.prog (opS g * d.sz+10) [0]:=(opn_3 hb).trans (op2_t hp)
       simp only [hm,hx,Lg.op,and_self,or_true,forall_const]
   · have hm:opn g (d.sd false) t=(d.sd false).prog (opS g * d.sz) (opH g t):=(opn_3 hb).trans (op2_f hp)
     simp only [hm,hp,Lg.op,and_self,or_true,forall_const]
structure K49a (g:Lg)(d:Dv)(b:List Int)(h:Hd) where
 i:Nat
 hi:(i:Int)≤slD b.length
def S49a (g:Lg)(d:Dv)(b:List Int)(h:Hd)(p:K49a g d b h):SL:=⟨[(0,.ptr 0 0),(1,.lst [U 0] (u8s b)),(5,.ptr 384 0),(6,.bool (lst' g h)),(26,Ii (slD b.length)),(27,Ii p.i)],[(0,.cells ((ldN g b h p.i).cs (.vw 3200 0 0 0))),(1,.cells (d.cs 33 34)),(384,.cells [Ii h.s,Ii h.t,.int .u16 h.i]),(3200,.buf 148 [Ii 0,.int .u16 0,.int .u32 0,.int .u16 0,U 0,U 0,U 0,.bool false,U 0,U 0,U 0] (rcs (ldN g b h p.i).rs)),(33,.buf 5 [U 0] (u8s d.by')),(34,.buf 3 [Ii 0] (i64s d.wr))]⟩
abbrev L49a (g:Lg)(d:Dv)(b:List Int)(h:Hd):LI:=⟨K49a g d b h,S49a g d b h,λp=>(slD b.length).toNat - p.i,λp q=>True⟩
theorem L49aS (g:Lg)(d:Dv)(b:List Int)(h:Hd):(L49a g d b h).S=S49a g d b h:=rfl
theorem L49aR (g:Lg)(d:Dv)(b:List Int)(h:Hd)(p q:K49a g d b h):(L49a g d b h).R p q=(True):=rfl
def I49 (g:Lg)(d:Dv)(b:List Int)(h:Hd):Nat→LI:=λn=>L49a g d b h
theorem I49_0 (g:Lg)(d:Dv)(b:List Int)(h:Hd):I49 g d b h 0=L49a g d b h:=rfl
theorem walk49 (P55:Phi 55=some CSl)(P59:Phi 59=some CBe)(P89:Phi 89=some CSlot)(P90:Phi 90=some CBl)(P91:Phi 91=some CDc)(g:Lg)(d:Dv)(b:List Int)(h:Hd)(h1:62≤b.length)(h2:b.length≤1024)(h3:g.rs.length≤1000000):evC Phi (I49 g d b h) rc49 ⟨initS [.ptr 0 0,.lst [.int .u8 0] (u8s b),.agg [.int .i64 h.s,.int .i64 h.t,.int .u16 h.i]],lookM (grA g d 1048576 33 34)⟩ (kRetG rv49 (λ(_ :Unit)=>(True,.tup [],grA (ldG g b h) d 3200 33 34))):=by
 simp (maxSteps:=2000000) only [rc49,grA,Lg.cs,Dv.cs,rv49,pk,un,Nat.reduceAdd,↓reduceIte,Nat.reduceMul,Nat.reduceEqDiff,Nat.reduceLeDiff,P55,CSl,I49_0,L49aS,S49a,Nat.reduceBEq,L49aR,P89,CSlot,Qg0,P90,CBl,Bool.not_not,Int.reduceLE,Int.reduceToNat,Qx0,P91,CDc,Ev.cs,Nat.reduceLT,rcs_len,rcs_app,P59,CBe,exists_const]
 obtain ⟨s1,s2,s3⟩:=slD_bd (z:=b.length) (by omega) (by omega)
 simp only [Nat.sub_zero]
 refine ⟨λhL _=>⟨⟨0,by omega⟩,?_,?_⟩,λhL _=>⟨⟨0,by omega⟩,?_,?_⟩⟩
 · have e:ldN g b h 0=g.sn h.i:=by unfold ldN; rw [if_pos (show lst' g h=true from hL)]
   dsimp only
   rw [e]
   exact ⟨⟨rfl,rfl⟩,⟨rfl,rfl,rfl,rfl,rfl,rfl,rfl,rfl,rfl,rfl⟩,rfl⟩
 · rintro ⟨i,hi⟩
   dsimp only
   refine ⟨λhc=>?_,λhc=>?_⟩
   · have hc:=of_decide_eq_true hc
     have hwi:IntKind.i64.wrap ((i:Int)+1) =(i:Int)+1:=wr_in _ (by omega) (by omega)
     have hsl:(slot b i).length=17:=slot_len (by omega)
     have hrl:=ldN_len g b h i
     refine ⟨⟨h2,by omega,by omega⟩,λ_=>by omega,λhu=>?_,λhu=>?_⟩
     · have hU:ldU (ldN g b h i) (lst' g h) (slot b i) i=(ldN g b h i).su (i+1):=by rw [ldU,if_pos hu]
       refine ⟨by omega,by rw [List.length_take]; omega,by omega,λ_=>⟨λhb=>?_,λhb=>⟨by omega,by omega,λhl=>?_,λhl=>?_⟩⟩⟩
       · have hb:bad (slot b i) =true:=hb
         exact ⟨⟨i+1,by omega⟩,⟨congrArg _ (wr_succ i (by omega)),by dsimp only; rw [ldN_s,ldS,hU,if_pos hb]; simp only [hwi,Lg.su,Lg.sn,Lg.sr,and_self]⟩,by dsimp only; omega⟩
       · have hb:bad (slot b i) =false:=hb
         exact ⟨⟨i+1,by omega⟩,⟨congrArg _ (wr_succ i (by omega)),by dsimp only; rw [ldN_s,ldS,hU,if_neg (by rw [hb]; decide),if_pos hl]; simp only [hwi,Lg.su,Lg.sn,Lg.sr,and_self]⟩,by dsimp only; omega⟩
       · rw [hl] at hu; cases hu
     · have hU:ldU (ldN g b h i) (lst' g h) (slot b i) i=ldN g b h i:=by rw [ldU,if_neg (by rw [hu]; decide)]
       refine ⟨by omega,by rw [List.length_take]; omega,by omega,λ_=>⟨λhb=>?_,λhb=>⟨by omega,by omega,λhl=>?_,λhl=>?_⟩⟩⟩
       · have hb:bad (slot b i) =true:=hb
         exact ⟨⟨i+1,by omega⟩,⟨congrArg _ (wr_succ i (by omega)),by dsimp only; rw [ldN_s,ldS,hU,if_pos hb]; simp only [hwi,Lg.su,Lg.sn,Lg.sr,and_self]⟩,by dsimp only; omega⟩
       · have hb:bad (slot b i) =false:=hb
         exact ⟨⟨i+1,by omega⟩,⟨congrArg _ (wr_succ i (by omega)),by dsimp only; rw [ldN_s,ldS,hU,if_neg (by rw [hb]; decide),if_pos hl]; simp only [hwi,Lg.su,Lg.sn,Lg.sr,and_self]⟩,by dsimp only; omega⟩
       · have hb:bad (slot b i) =false:=hb
         exact ⟨⟨i+1,by omega⟩,⟨congrArg _ (wr_succ i (by omega)),by dsimp only; rw [ldN_s,ldS,hU,if_neg (by rw [hb]; decide),if_neg (by rw [hl]; decide)]; simp only [hwi,Lg.su,Lg.sn,Lg.sr,and_self]⟩,by dsimp only; omega⟩
   · have hc:=of_decide_eq_false hc
     have hi:i=(slD b.length).toNat:=by omega
     subst hi
     simp only [ldG,and_self]
 · have e:ldN g b h 0=g:=by unfold ldN; rw [if_neg]; rw [lst',hL]; decide
   dsimp only
   rw [e]
   exact ⟨⟨rfl,rfl⟩,⟨rfl,rfl,rfl,rfl,rfl,rfl,rfl,rfl,rfl,rfl⟩,rfl⟩
 · rintro ⟨i,hi⟩
   dsimp only
   refine ⟨λhc=>?_,λhc=>?_⟩
   · have hc:=of_decide_eq_true hc
     have hwi:IntKind.i64.wrap ((i:Int)+1) =(i:Int)+1:=wr_in _ (by omega) (by omega)
     have hsl:(slot b i).length=17:=slot_len (by omega)
     have hrl:=ldN_len g b h i
     refine ⟨⟨h2,by omega,by omega⟩,λ_=>by omega,λhu=>?_,λhu=>?_⟩
     · have hU:ldU (ldN g b h i) (lst' g h) (slot b i) i=(ldN g b h i).su (i+1):=by rw [ldU,if_pos hu]
       refine ⟨by omega,by rw [List.length_take]; omega,by omega,λ_=>⟨λhb=>?_,λhb=>⟨by omega,by omega,λhl=>?_,λhl=>?_⟩⟩⟩
       · have hb:bad (slot b i) =true:=hb
         exact ⟨⟨i+1,by omega⟩,⟨congrArg _ (wr_succ i (by omega)),by dsimp only; rw [ldN_s,ldS,hU,if_pos hb]; simp only [hwi,Lg.su,Lg.sn,Lg.sr,and_self]⟩,by dsimp only; omega⟩
       · have hb:bad (slot b i) =false:=hb
         exact ⟨⟨i+1,by omega⟩,⟨congrArg _ (wr_succ i (by omega)),by dsimp only; rw [ldN_s,ldS,hU,if_neg (by rw [hb]; decide),if_pos hl]; simp only [hwi,Lg.su,Lg.sn,Lg.sr,and_self]⟩,by dsimp only; omega⟩
       · rw [hl] at hu; cases hu
     · have hU:ldU (ldN g b h i) (lst' g h) (slot b i) i=ldN g b h i:=by rw [ldU,if_neg (by rw [hu]; decide)]
       refine ⟨by omega,by rw [List.length_take]; omega,by omega,λ_=>⟨λhb=>?_,λhb=>⟨by omega,by omega,λhl=>?_,λhl=>?_⟩⟩⟩
       · have hb:bad (slot b i) =true:=hb
         exact ⟨⟨i+1,by omega⟩,⟨congrArg _ (wr_succ i (by omega)),by dsimp only; rw [ldN_s,ldS,hU,if_pos hb]; simp only [hwi,Lg.su,Lg.sn,Lg.sr,and_self]⟩,by dsimp only; omega⟩
       · have hb:bad (slot b i) =false:=hb
         exact ⟨⟨i+1,by omega⟩,⟨congrArg _ (wr_succ i (by omega)),by dsimp only; rw [ldN_s,ldS,hU,if_neg (by rw [hb]; decide),if_pos hl]; simp only [hwi,Lg.su,Lg.sn,Lg.sr,and_self]⟩,by dsimp only; omega⟩
       · have hb:bad (slot b i) =false:=hb
         exact ⟨⟨i+1,by omega⟩,⟨congrArg _ (wr_succ i (by omega)),by dsimp only; rw [ldN_s,ldS,hU,if_neg (by rw [hb]; decide),if_neg (by rw [hl]; decide)]; simp only [hwi,Lg.su,Lg.sn,Lg.sr,and_self]⟩,by dsimp only; omega⟩
   · have hc:=of_decide_eq_false hc
     have hi:i=(slD b.length).toNat:=by omega
     subst hi
     simp only [ldG,and_self]
theorem walk52 (c:Ck):evC Phi (noI) rc52 ⟨initS [c.av],initM false []⟩ (kRet rv52 (Ii (secs c)) false []):=by
 simp (maxSteps:=2000000) only [rc52,Ck.av,pk,un,rv52,Nat.reduceAdd,↓reduceIte,Nat.reduceEqDiff]
 exact ⟨by decide,rfl⟩
theorem walk51 (t w:Int):evC Phi (noI) rc51 ⟨initS [.int .u32 t,U w],initM false []⟩ (kRet rv51 (chg t w).av false []):=by
 simp (maxSteps:=2000000) only [rc51,pk,un,rv51,Ev.av,Nat.reduceMul,Nat.reduceAdd,Nat.reduceEqDiff,↓reduceIte,Nat.reduceLeDiff]
 simp [chg]
theorem walk50 (P52:Phi 52=some CS)(c:Ck):evC Phi (noI) rc50 ⟨initS [c.av],initM false []⟩ (kRet rv50 (.bool (valid c)) false []):=by
 simp (maxSteps:=2000000) only [rc50,Ck.av,pk,un,rv50,Nat.reduceAdd,↓reduceIte,Nat.reduceEqDiff,Nat.reduceLeDiff,P52,CS,Ck.eta]
 exact ⟨λh=>AV.bool_inj' (by simp only [valid,h]; rfl),λh=>AV.bool_inj' (by simp only [valid,h]; rfl)⟩
theorem walk16 (n m:Int)(hm:m≠0):evC Phi (noI) rc16 ⟨initS [Ii n,Ii m],initM false []⟩ (kRet rv16 (Ii (modI n m)) false []):=by
 simp (maxSteps:=2000000) only [rc16,rv16,pk,un,pickOf,↓reduceIte,Nat.reduceEqDiff,Nat.reduceMul,Nat.reduceAdd,Nat.reduceBEq,Nat.reduceLeDiff,Int.reduceToNat,Int.reduceLE,Int.reduceLT,Nat.reduceLT,W,Qg0,Qn0,decB_bls,bls_len,getE_bl,u8s_join,i64s_join,Zx0,u8s_snoc2,Zn0,Qx0,Qz0,i64s_take,i64s_drop,ByteE_u8s,Zt0,decU_cons,decU_nil,Qf0,getE_lit1,getE_lit2,getE_lit3,getE_lit4,Dv.gr,Dv.cs,Dv.de_gr,Dv.eta,flatU,lenX,exists_const,Option.isSome_some,Zy0,Zo0,Dv.step_sz,Dv.step_by,Dv.step_to,Dv.step_wr,goOp_none,pv_bad,Ev.cs,Ev.eta,fs_113,fs_117,Dv.er1_eq,Dv.er1_sz,Dv.er1_by,Dv.er1_to,evs_len,getE_ev,evs_app,decE_evs,rcs_len,getE_rc,rcs_app,Zv0,Rc.cs,Lg.cs,Lg.eta,dead,Dv.sd_sz,Dv.sd_by,Dv.sd_wr,Dv.sd_st,Dv.sd_lf,Dv.sd_to,Dv.sd_dn,Dv.bl,grN,grR,deG_N,deG_R,deD_N,deD_R,↓Bool.forall_bool,↓Bool.exists_bool,Dv.sd_mk,Dv.sd_sd,eno_t,eno_f,fs_117,dec10,dec10e,dec00e,Bool.not_not,mx_fold,nl_mk,nl_op,nl_opn,nl_mx,nl_fi,nl_se,nl_ov,nl_nw,nl_tl,nl_us,nl_nx,nl_rs,nl_fu,nl_nu,nl_he,op_fi,op_se,op_ov,op_nw,op_tl,op_us,op_nx,op_rs,op_fu,op_nu,op_he,grA,grD,grN1,Lg.co,bAr_len,hAr_len,getE_bAr,getE_hAr,Ck.av,Ck.cs,Ck.eta,Ev.av,cks_len,getE_ck,i64s_rep,Zo0,List.length_replicate,List.length_set]
 exact ⟨hm,λh=>AV.int_inj' (by simp only [modI,if_pos (of_decide_eq_true h)]),λh=>AV.int_inj' (by simp only [modI,if_neg (of_decide_eq_false h)])⟩
theorem walk21 (P50:Phi 50=some CV)(P52:Phi 52=some CS)(c:Ck):evC Phi (noI) rc21 ⟨initS [c.av],initM false []⟩ (kRet rv21 (.tup [.int .u32 (stamp c),Ii (stampE c)]) false []):=by
 simp (maxSteps:=2000000) only [rc21,Ck.av,pk,un,rv21,Nat.reduceAdd,↓reduceIte,Nat.reduceEqDiff,Nat.reduceLeDiff,P50,CV,Ck.eta,P52,CS]
 cases hv:valid c<;>simp [stamp,stampE,hv]
theorem walk20 (P50:Phi 50=some CV)(c:Ck)(n:Int):evC Phi (noI) rc20 ⟨initS [c.av,Ii n],initM false []⟩ (kRet rv20 (.tup [(adv c n).av,Ii (advE c n)]) false []):=by
 simp (maxSteps:=2000000) only [rc20,Ck.av,pk,un,rv20,Nat.reduceAdd,↓reduceIte,Nat.reduceMul,Nat.reduceEqDiff,Nat.reduceLeDiff,P50,CV,Ck.eta]
 cases hv:valid c with
 | false=>simp [adv,advE,advOK,hv,ck0]
 | true=>
   cases h1:(decide (n < 0) || decide (IntKind.i64.wrap (17179869184 - c.t) < n)) with
   | true=>simp only [adv,advE,advOK,W,hv,h1]; simp [ck0]
   | false=>cases h2:valid {t:=IntKind.i64.wrap (c.t+n),b:=c.b,s:=c.s}<;>simp only [adv,advE,advOK,W,hv,h1,h2]<;>simp [ck0]
theorem walk19 (P50:Phi 50=some CV)(P52:Phi 52=some CS)(P51:Phi 51=some CC)(c:Ck)(to:Int)(h0:0≤to)(h1:to≤4294967295):evC Phi (noI) rc19 ⟨initS [c.av,.int .u32 to],initM false []⟩ (kRet rv19 (.tup [(adjC c to).av,.lst [.int .u16 0,.int .u32 0,.int .u16 0,U 0,U 0,U 0,.bool false,U 0,U 0,U 0] (evs (adjL c to)),Ii (adjE c to)]) false []):=by
 simp (maxSteps:=2000000) only [rc19,Ck.av,pk,un,rv19,Nat.reduceAdd,↓reduceIte,Nat.reduceMul,Nat.reduceEqDiff,Nat.reduceLeDiff,P50,CV,Ck.eta,P52,CS,P51,CC,Ev.av,Nat.reduceLT]
 cases hv:valid c with
 | false=>simp [adjC,adjL,adjE,adjOK,hv,ck0,evs]
 | true=>cases h1:decide (4294967294 < to)<;>simp only [adjC,adjL,adjE,adjOK,W,hv,h1]<;>simp [ck0,evs,Ev.cs]
theorem walk60 (P51:Phi 51=some CC)(x:Ev)(w:Int):evC Phi (noI) rc60 ⟨initS [x.av,U w],initM false []⟩ (kRet rv60 (.bool (isx x w)) false []):=by
 simp (maxSteps:=2000000) only [rc60,Ev.av,pk,un,rv60,Nat.reduceAdd,↓reduceIte,Nat.reduceMul,Nat.reduceEqDiff,P51,CC,Nat.reduceLeDiff,Nat.reduceBEq]
 by_cases p1:x.st=18<;>by_cases p2:x.ty=111<;>by_cases p3:x.de=true<;>by_cases p4:x.a=5<;>by_cases p5:x.c=255<;>by_cases p6:x.b=w<;>simp_all [isx,chg]
theorem walk26 (P60:Phi 60=some CIs)(l:List Ev)(hl:l.length≤100000):evC Phi (I25 l) rc26 ⟨initS [.lst [.int .u16 0,.int .u32 0,.int .u16 0,U 0,U 0,U 0,.bool false,U 0,U 0,U 0] (evs l)],initM false []⟩ (kRet rv26 (.tup [.lst [Ii 0] (i64s (recL l)),Ii (recE l)]) false []):=by
 simp (maxSteps:=2000000) only [rc26,pk,un,rv26,Nat.reduceEqDiff,↓reduceIte,evs_len,I25a,L25S,S25,L25R,Nat.reduceAdd,getE_ev,Ev.cs,Nat.reduceLeDiff,Nat.reduceMul,P60,CIs,Ev.eta,i64s_rep,I25b,L25bS,S25b,L25bR,Zo0,Nat.reduceBEq]
 intro _
 refine ⟨⟨0,by omega,by intro j hj; omega⟩,rfl,?_⟩
 rintro ⟨i,hi,hb⟩
 dsimp only
 refine ⟨λhc=>?_,λhc _=>?_⟩
 · have hc:=of_decide_eq_true hc
   have hc2:i < l.length:=by omega
   have e1:IntKind.i64.wrap ((i:Int)+1) =((i+1:Nat):Int):=by rw [wr_in _ (by omega) (by omega)]; omega
   have e2:IntKind.i64.wrap ((i:Int) - 1) =(i:Int) - 1:=wr_in _ (by omega) (by omega)
   have e3:((i:Int) - 1).toNat=i - 1:=by omega
   have e4:decide (((i+1:Nat):Int) =(l.length:Int)) =decide (i+1=l.length):=by rw [decide_eq_decide]; omega
   have e5:decide ((i:Int) =0) =decide (i=0):=by rw [decide_eq_decide]; omega
   rw [e1,e2,e3,e4,e5,Int.toNat_natCast]
   refine ⟨⟨by omega,by omega⟩,λ_=>⟨λh=>?_,λh=>?_,λh=>?_,λh=>?_⟩⟩
   · have h2:=of_decide_eq_false (Option.some.inj h.2)
     omega
   · have h2:=of_decide_eq_false (Option.some.inj h.2.2)
     omega
   · have h':badR l i=true:=h
     have e:okC l=false:=by
      cases e:okC l with
      | false=>rfl
      | true=>rw [(okC_iff l).mp e i hc2] at h'; cases h'
     exact ⟨by simp [recL,e,i64s],by simp [recE,e]⟩
   · have h':badR l i=false:=h
     refine ⟨⟨i+1,by omega,λj hj=>?_⟩,rfl,by simp only [L25]; omega⟩
     by_cases hji:j=i
     · rw [hji]; exact h'
     · exact hb j (by omega)
 · have hc:=of_decide_eq_false hc
   have ho:okC l=true:=(okC_iff l).mpr λj hj=>hb j (by omega)
   refine ⟨⟨by omega,by omega,by omega,by omega⟩,λ_=>?_⟩
   refine ⟨⟨0,by omega,ho⟩,⟨⟨rfl,AV.int_inj' (by dsimp only; rw [wr_in _ (by omega) (by omega)]; omega)⟩,by rw [outR_0]⟩,?_⟩
   rintro ⟨k,hk,ho⟩
   dsimp only
   rw [outR_len]
   refine ⟨λhc=>?_,λhc=>?_⟩
   · have hc:=of_decide_eq_true hc
     have hk2:k < l.length:=by omega
     have e3:((l.length:Int) - 1 - k).toNat=l.length - 1 - k:=by omega
     have e4:IntKind.i64.wrap ((l.length:Int) - 1 - k - 1) =(l.length:Int) - 1 - k - 1:=wr_in _ (by omega) (by omega)
     have e5:((l.length:Int) - 1 - k - 1).toNat=l.length - 1 - k - 1:=by omega
     have e6:(l.length:Int) - 1 - k - 1=(l.length:Int) - 1 - ((k+1:Nat):Int):=by omega
     rw [e4,e3,e5]
     refine ⟨⟨by omega,by omega⟩,λ_=>⟨⟨by omega,by omega⟩,λ_=>⟨by omega,⟨by omega,by omega⟩,λ_=>⟨λhx=>?_,λhx=>?_⟩⟩⟩⟩
     · have h0:=okC_128 ho (by omega) hx
       refine ⟨⟨by omega,by omega⟩,⟨by omega,by omega⟩,λ_ _=>⟨⟨k+1,by omega,ho⟩,⟨⟨AV.int_inj' ?_,AV.int_inj' e6⟩,congrArg i64s (outR_set l hk2)⟩,by simp only [L25b]; omega⟩⟩
       simp only [dkR,hx,if_true]; rfl
     · refine ⟨⟨k+1,by omega,ho⟩,⟨⟨AV.int_inj' ?_,AV.int_inj' e6⟩,congrArg i64s (outR_set l hk2)⟩,by simp only [L25b]; omega⟩
       simp only [dkR,hx]; rfl
   · have hc:=of_decide_eq_false hc
     have hkl:k=l.length:=by omega
     subst hkl
     exact ⟨by simp only [recL,ho,if_true],by simp only [recE,ho,if_true]⟩
structure K27ga (g:Lg)(d:Dv) where
 i:Nat
 hi:i≤g.rs.length
def S27ga (g:Lg)(d:Dv)(p:K27ga g d):SL:=⟨[(3,.vw 3200 0 0 0),(9,.vw 32 0 0 0),(10,Ii g.rs.length),(11,Ii p.i)],[(0,.cells (g.cs (.vw 32 0 0 0))),(1,.cells (d.cs 33 34)),(32,.buf 148 [Ii 0,.int .u16 0,.int .u32 0,.int .u16 0,U 0,U 0,U 0,.bool false,U 0,U 0,U 0] (rcs g.rs)),(33,.buf 5 [U 0] (u8s d.by')),(34,.buf 3 [Ii 0] (i64s d.wr)),(3200,.buf 82 [.int .u16 0,.int .u32 0,.int .u16 0,U 0,U 0,U 0,.bool false,U 0,U 0,U 0] (evs ((g.rs.take p.i).map Rc.e)))]⟩
abbrev L27ga (g:Lg)(d:Dv):LI:=⟨K27ga g d,S27ga g d,λp=>g.rs.length - p.i,λp q=>True⟩
theorem L27gaS (g:Lg)(d:Dv):(L27ga g d).S=S27ga g d:=rfl
theorem L27gaR (g:Lg)(d:Dv)(p q:K27ga g d):(L27ga g d).R p q=(True):=rfl
def I27g (g:Lg)(d:Dv):Nat→LI:=λn=>L27ga g d
theorem I27g_0 (g:Lg)(d:Dv):I27g g d 0=L27ga g d:=rfl
theorem walk27g (g:Lg)(d:Dv)(hl:g.rs.length≤1000000):evC Phi (I27g g d) rc27 ⟨initS [.ptr 0 0],lookM (grR g d)⟩ (kRetG rv27 (λ(_ :Unit)=>(True,.vw 3200 0 0 0,(3200,.buf 82 zE (evs (g.rs.map Rc.e)))::grR g d))):=by
 simp (maxSteps:=2000000) only [rc27,grR,Lg.cs,Dv.cs,rv27,pk,un,Nat.reduceEqDiff,↓reduceIte,rcs_len,I27g_0,L27gaS,S27ga,Nat.reduceAdd,Nat.reduceLeDiff,Nat.reduceLT,L27gaR,getE_rc,Rc.cs,Ev.cs,Nat.reduceMul,evs_len,evs_app,exists_const]
 intro _
 refine ⟨⟨0,Nat.zero_le _⟩,⟨rfl,rfl⟩,?_⟩
 rintro ⟨i,hi⟩
 dsimp only
 refine ⟨λhc=>?_,λhc=>?_⟩
 · have hc:=of_decide_eq_true hc
   refine ⟨⟨by omega,hc⟩,λ_=>⟨by omega,by simp only [List.length_take]; omega,by simp only [List.length_take]; omega,⟨i+1,by omega⟩,⟨congrArg _ (wr_succ i (by omega)),?_⟩,by dsimp only; omega⟩⟩
   dsimp only
   rw [List.take_add_one,List.map_append,List.getD_eq_getElem?_getD,List.getElem?_eq_getElem (by omega)]
   rfl
 · have hc:=of_decide_eq_false hc
   rw [List.take_of_length_le (by omega)]
theorem s53:Sound Tryz.prog 53 CDwn:=soundG (by kernel_rfl) (Qa0 s92 Qc0) Tryz.func53 rfl rc53_ok rv53_ok (by
 intro bs xs q g h hq
 generalize deG bs=G at h
 generalize deD bs=D at h
 split at h
 · split at h
   · cases h
     rw [hq]
     exact ⟨noI,λ_ _=>rfl,Nat.le_of_ble_eq_true rfl,walk53r rfl G D⟩
   · cases h
 · cases h
 )
theorem s127:Sound Tryz.prog 127 CIr:=soundG (by kernel_rfl) (Qa0 s117 Qc0) Tryz.func127 rfl rc127_ok rv127_ok (by
 intro bs xs q g h hq
 split at h
 · split at h
   · rename_i zz es k' t
     cases h
     obtain ⟨hb,hl,hk⟩:=hq
     rw [hb]
     have hn:es.length=(decR es).length:=(List.length_map _).symm
     rw [hn] at hl
     generalize decR es=L at *
     exact ⟨I127 L t,λ_ _=>rfl,Nat.le_of_ble_eq_true rfl,walk127r rfl L t hl hk⟩
   · cases h
 · cases h
 )
theorem s116:Sound Tryz.prog 116 CDf:=soundG (by kernel_rfl) (Qa0 s127 (Qa0 s117 Qc0)) Tryz.func116 rfl rc116_ok rv116_ok (by
 intro bs xs q g h hq
 split at h
 · split at h
   · rename_i zz es k' t
     cases h
     obtain ⟨hb,hl,hk⟩:=hq
     rw [hb]
     have hn:es.length=(decR es).length:=(List.length_map _).symm
     rw [hn] at hl
     generalize decR es=L at *
     exact ⟨noI,λ_ _=>rfl,Nat.le_of_ble_eq_true rfl,walk116r rfl rfl L t hl hk⟩
   · cases h
 · cases h
 )
theorem s93:Sound Tryz.prog 93 COp:=soundG (by kernel_rfl) (Qa0 s47 (Qa0 s46 (Qa0 s90 (Qa0 s114 (Qa0 s115 (Qa0 s58 (Qa0 s116 Qc0))))))) Tryz.func93 rfl rc93_ok rv93_ok (by
 intro bs xs q g h hq
 generalize deG bs=G at h
 generalize deD bs=D at h
 split at h
 · split at h
   · rename_i t _ _ _ _ _ _
     cases h
     obtain ⟨hb,ho,hk⟩:=hq
     rw [hb]
     exact ⟨noI,λ_ _=>rfl,Nat.le_of_ble_eq_true rfl,walk93r rfl rfl rfl rfl rfl rfl rfl G D t ho hk⟩
   · cases h
 · cases h
 )
theorem s56:Sound Tryz.prog 56 CGw:=soundG (by kernel_rfl) (Qa0 s93 Qc0) Tryz.func56 rfl rc56_ok rv56_ok (by
 intro bs xs q g h hq
 generalize deG bs=G at h
 generalize deD bs=D at h
 split at h
 · split at h
   · cases h
     obtain ⟨hb,ho,hk⟩:=hq
     rw [hb]
     exact ⟨noI,λ_ _=>rfl,Nat.le_of_ble_eq_true rfl,walk56r rfl G D ho hk⟩
   · cases h
 · cases h
 )
theorem s24:Sound Tryz.prog 24 CAdd:=soundG (by kernel_rfl) (Qa0 s53 (Qa0 s54 (Qa0 s47 (Qa0 s55 (Qa0 s56 (Qa0 s57 (Qa0 s58 (Qa0 s59 Qc0)))))))) Tryz.func24 rfl rc24_ok rv24_ok (by
 intro bs xs q g h hq
 generalize deG bs=G at h
 generalize deD bs=D at h
 split at h
 · split at h
   · rename_i id t g st sn ty de a b c _ _ _ _ _ _
     cases h
     obtain ⟨hb,ho⟩:=hq
     rw [hb]
     exact ⟨noI,λk _=>by cases k<;>rfl,Nat.le_of_ble_eq_true rfl,walk24r rfl rfl rfl rfl rfl rfl rfl rfl G D ⟨id,t,g,st,sn,ty,de,a,b,c⟩ ho⟩
   · cases h
 · cases h
 )
theorem s49:Sound Tryz.prog 49 CLd:=soundG (by kernel_rfl) (Qa0 s55 (Qa0 s59 (Qa0 s89 (Qa0 s90 (Qa0 s91 Qc0))))) Tryz.func49 rfl rc49_ok rv49_ok (by
 intro bs xs q g h hq
 generalize deG bs=G at h
 generalize deD bs=D at h
 split at h
 · split at h
   · rename_i x s t i _ _ _ _ _ _
     cases h
     obtain ⟨hb,hx,h1,h2,h3⟩:=hq
     rw [hb]
     generalize avB x=B at *
     subst hx
     exact ⟨I49 G D B ⟨s,t,i⟩,λ_ _=>rfl,Nat.le_of_ble_eq_true rfl,walk49 rfl rfl rfl rfl rfl G D B ⟨s,t,i⟩ h1 h2 h3⟩
   · cases h
 · cases h
 )
theorem s18:Sound Tryz.prog 18 COpen:=soundG (by kernel_rfl) (Qa0 s45 (Qa0 s46 (Qa0 s47 (Qa0 s48 (Qa0 s49 Qc0))))) Tryz.func18 rfl rc18_ok rv18_ok (by
 intro bs xs q g h hq
 split at h
 · rename_i fi se ov
   cases h
   obtain ⟨hb,ho⟩:=hq
   generalize Dv.de bs=d at *
   subst hb
   exact ⟨I18 d fi se ov,λ_ _=>rfl,Nat.le_of_ble_eq_true rfl,walk18 rfl rfl rfl rfl rfl d fi se ov ho⟩
 · cases h
 )
theorem s52:Sound Tryz.prog 52 CS:=Qb0 (by kernel_rfl) Qc0 Tryz.func52 rfl rc52_ok rv52_ok (by
 intro xs q r cs' h hq
 split at h
 · rename_i t b s
   cases h
   exact ⟨noI,rfl,Nat.le_of_ble_eq_true rfl,walk52  ⟨t,b,s⟩⟩
 · cases h
 )
theorem s51:Sound Tryz.prog 51 CC:=Qb0 (by kernel_rfl) Qc0 Tryz.func51 rfl rc51_ok rv51_ok (by
 intro xs q r cs' h hq
 split at h
 · rename_i t w
   cases h
   exact ⟨noI,rfl,Nat.le_of_ble_eq_true rfl,walk51  t w⟩
 · cases h
 )
theorem s50:Sound Tryz.prog 50 CV:=Qb0 (by kernel_rfl) (Qa0 s52 Qc0) Tryz.func50 rfl rc50_ok rv50_ok (by
 intro xs q r cs' h hq
 split at h
 · rename_i t b s
   cases h
   exact ⟨noI,rfl,Nat.le_of_ble_eq_true rfl,walk50 rfl ⟨t,b,s⟩⟩
 · cases h
 )
theorem s16:Sound Tryz.prog 16 CM:=Qb0 (by kernel_rfl) Qc0 Tryz.func16 rfl rc16_ok rv16_ok (by
 intro xs q r cs' h hq
 split at h
 · rename_i n m
   cases h
   exact ⟨noI,rfl,Nat.le_of_ble_eq_true rfl,walk16  n m hq⟩
 · cases h
 )
theorem s21:Sound Tryz.prog 21 CT:=Qb0 (by kernel_rfl) (Qa0 s50 (Qa0 s52 Qc0)) Tryz.func21 rfl rc21_ok rv21_ok (by
 intro xs q r cs' h hq
 split at h
 · rename_i t b s
   cases h
   exact ⟨noI,rfl,Nat.le_of_ble_eq_true rfl,walk21 rfl rfl ⟨t,b,s⟩⟩
 · cases h
 )
theorem s20:Sound Tryz.prog 20 CA:=Qb0 (by kernel_rfl) (Qa0 s50 Qc0) Tryz.func20 rfl rc20_ok rv20_ok (by
 intro xs q r cs' h hq
 split at h
 · rename_i t b s n
   cases h
   exact ⟨noI,rfl,Nat.le_of_ble_eq_true rfl,walk20 rfl ⟨t,b,s⟩ n⟩
 · cases h
 )
theorem s19:Sound Tryz.prog 19 CJ:=Qb0 (by kernel_rfl) (Qa0 s50 (Qa0 s52 (Qa0 s51 Qc0))) Tryz.func19 rfl rc19_ok rv19_ok (by
 intro xs q r cs' h hq
 split at h
 · rename_i t b s to
   cases h
   exact ⟨noI,rfl,Nat.le_of_ble_eq_true rfl,walk19 rfl rfl rfl ⟨t,b,s⟩ to hq.1 hq.2⟩
 · cases h
 )
theorem s60:Sound Tryz.prog 60 CIs:=Qb0 (by kernel_rfl) (Qa0 s51 Qc0) Tryz.func60 rfl rc60_ok rv60_ok (by
 intro xs q r cs' h hq
 split at h
 · rename_i id t g st sn ty de a b c w
   cases h
   exact ⟨noI,rfl,Nat.le_of_ble_eq_true rfl,walk60 rfl ⟨id,t,g,st,sn,ty,de,a,b,c⟩ w⟩
 · cases h
 )
theorem s26x:Sound Tryz.prog 26 CRc:=Qb0 (by kernel_rfl) (Qa0 s60 Qc0) Tryz.func26 rfl rc26_ok rv26_ok (by
 intro xs q r cs' h hq
 split at h
 · rename_i zz es
   cases h
   obtain ⟨⟨rfl,he⟩,hl⟩:=hq
   rw [show es.length=(decE es).length from (List.length_map _).symm] at hl
   generalize decE es=L at *
   subst he
   exact ⟨I25 L,rfl,Nat.le_of_ble_eq_true rfl,walk26 rfl L hl⟩
 · cases h
 )
theorem s26:Sound Tryz.prog 26 CRx:=ext_of_mk s26x (by
 intro xs q g h
 split at h
 · cases h
   exact ⟨_,_,rfl,rfl,rfl,rfl⟩
 · cases h)
theorem s27:Sound Tryz.prog 27 CRg:=soundG (by kernel_rfl) Qc0 Tryz.func27 rfl rc27_ok rv27_ok (by
 intro bs xs q g h hq
 generalize deG bs=G at h
 generalize deD bs=D at h
 split at h
 · split at h
   · cases h
     obtain ⟨hb,hl⟩:=hq
     rw [hb]
     exact ⟨I27g G D,λ_ _=>rfl,Nat.le_of_ble_eq_true rfl,walk27g  G D hl⟩
   · cases h
 · cases h
 )
theorem s22:Sound Tryz.prog 22 CArmB:=gr_of_gr s22x (by
 intro bs xs q g h hq
 split at h
 · rename_i n t
   cases h
   generalize hd0:(Dv.de bs).sd false=d0 at hq
   have e:Dv.de bs=d0:=by rw [hq]; exact de_of_gr d0
   have hdn:d0.dn=false:=by rw [← hd0]; rfl
   refine ⟨_,_,rfl,?_,λ_ _=>?_⟩
   · try dsimp only
     rw [e]
     exact hq
   · try dsimp only
     rw [e]
     have e2:(d0.arm n t).dn=false:=by unfold Dv.arm; split<;>exact hdn
     exact ⟨(),trivial,by rw [Dv.sd_self e2]⟩
 · cases h)
theorem walk5x (P6:Phi 6=some CFst)(P16:Phi 16=some CM)(P17:Phi 17=some CNewD)(P18:Phi 18=some COpen)(P19:Phi 19=some CJ)(P20:Phi 20=some CA)(P21:Phi 21=some CT)(P22:Phi 22=some CArmB)(P23:Phi 23=some CLen)(P24:Phi 24=some CAdd)(P25:Phi 25=some CRes)(P26:Phi 26=some CRx)(P27:Phi 27=some CRg)(l:List Tn)(hl:decide (60 < (l.length:Int)) =true):evC Phi (noI) rc5 ⟨initS [.lst [.bool false,.bool false,Ii 0,.int .u32 0,Ii 0,U 0] (tns l)],initM false []⟩ (kRet rv5 (.bool true) false []):=by
 simp (maxSteps:=2000000) only [rc5,bA5_104,bO5_104,bB5_104,pk,un,rv5,P6,CFst,↓reduceIte,Nat.reduceEqDiff,tns_len,hl,P17,CNewD,Dv.cs,newD_dn,Nat.reduceMul,Nat.reduceAdd,Nat.reduceLeDiff,Nat.reduceBEq,P18,COpen,Dv.gr,Dv.sd_sz,Dv.sd_st,Dv.sd_lf,Dv.sd_to,Dv.sd_dn,Dv.sd_by,Dv.sd_wr,Lg.co,Nat.reduceLT,Dv.de_gr,Qg0,Qn0,Dv.sd_mk,og_fold,og_sd,Option.isSome_some]
theorem s6:Sound Tryz.prog 6 CFst:=Qb0 (by kernel_rfl) (Qa0 s11 (Qa0 s12 (Qa0 s17 (Qa0 s18 (Qa0 s23 (Qa0 s24 Qc0)))))) Tryz.func6 rfl rc6_ok rv6_ok (by
 intro xs q r cs' h hq
 split at h
 · cases h
   exact ⟨noI,rfl,Nat.le_of_ble_eq_true rfl,walk6 rfl rfl rfl rfl rfl rfl⟩
 · cases h
 )
namespace Timed
open Go.ChangeShapes Go.WideShapes Go.ChangeAt Go.RowKit
abbrev laidL:List (String×DataW Unit):=[("baseboard/event.offsets",Rows.laid_baseboard_event_offsets)]
theorem gOff:Tryz.prog.globalNamed "baseboard/event.offsets" =some 0:=by kernel_rfl
theorem tOff:(Tryz.prog.globals[0]?).map (·.type) =some 31:=by kernel_rfl
theorem door_met (os:Os)(args:Array Value):laidMetH Tryz.prog laidL ((World.doorLaid Tryz.prog 400 os).forCall (λ_ _=>0) ⟨#[],args,[]⟩).memory:=
 laidMetH_of_parts3 (fuel:=8) (laidMet_of_run' 8 (by kernel_rfl) (by kernel_rfl)) (by kernel_rfl) (by kernel_rfl)
theorem cells6 {l:List Value}(h:l.length=6) {a:Nat→Int}(hc:∀ i,i < 6→(l.drop (i * 1)).take 1= [.int .u8 (a i)]):l= [.int .u8 (a 0),.int .u8 (a 1),.int .u8 (a 2),.int .u8 (a 3),.int .u8 (a 4),.int .u8 (a 5)]:=by
 match l,h with
 | [x0,x1,x2,x3,x4,x5],_=>
   have h0:=hc 0 (by decide)
   have h1:=hc 1 (by decide)
   have h2:=hc 2 (by decide)
   have h3:=hc 3 (by decide)
   have h4:=hc 4 (by decide)
   have h5:=hc 5 (by decide)
   simp at h0 h1 h2 h3 h4 h5
   simp [h0,h1,h2,h3,h4,h5]
theorem of_laid {W:World}(h:laidMetH Tryz.prog laidL W):Glb (λb=>b < W.heap.size) W:=by
 rw [MakeChecks.laidMetH_plain _ _ _ (by kernel_rfl)] at h
 obtain ⟨ps,⟨g0,t0,cs0,f0,p0,q0,hg0,ht0,hv0,hd0,_,_⟩,_,_⟩:=h
 obtain rfl:=Option.some.inj (gOff.symm.trans hg0)
 obtain rfl:=Option.some.inj (tOff.symm.trans ht0)
 obtain ⟨xs,m1,rfl,hx1,hlen,hn6,hel⟩:=DataW.trod_array Tryz.underlying31 hd0
 have c5:Tryz.prog.cellsOf 5=1:=by kernel_rfl
 have c31:Tryz.prog.cellsOf 31=6:=by kernel_rfl
 rw [c5] at hel
 rw [c31] at hlen
 simp only [Prod.mk.injEq] at hx1
 have hx2:xs.map (·.1) = [.lit (.int .u8 0),.lit (.int .u8 2),.lit (.int .u8 4),.lit (.int .u8 7),.lit (.int .u8 9),.lit (.int .u8 11)]:=by
  have:=hx1.1
  simp only [Rows.laid_baseboard_event_offsets,DataW.agg.injEq] at this
  exact this.symm
 have key:∀ i,i < 6→(cs0.toList.drop (i * 1)).take 1= [Value.int .u8 ([0,2,4,7,9,11].getD i 0)]:=by
  intro i hi
  have hi':i < xs.length:=by omega
  have he:=hel i hi
  rw [List.getElem?_eq_getElem hi'] at he
  obtain ⟨n,e1,e2,_⟩:=DataW.trod_int Tryz.underlying5 he
  rw [e1]
  have e3:(xs.map (·.1))[i]? =some (.lit (.int .u8 n)):=by rw [List.getElem?_map,List.getElem?_eq_getElem hi',e2]; rfl
  rw [hx2] at e3
  match i,hi,e3 with
  | 0,_,e3=>simp at e3; simp [e3]
  | 1,_,e3=>simp at e3; simp [e3]
  | 2,_,e3=>simp at e3; simp [e3]
  | 3,_,e3=>simp at e3; simp [e3]
  | 4,_,e3=>simp at e3; simp [e3]
  | 5,_,e3=>simp at e3; simp [e3]
 have hcs:=cells6 hlen key
 unfold World.var? at hv0
 rw [gOff] at hv0
 simp only [Option.bind_some] at hv0
 split at hv0
 · rename_i cs T s hh
   simp only [sI] at hv0
   subst hv0
   obtain ⟨l⟩:=cs
   dsimp only at hcs
   refine ⟨(Array.getElem?_eq_some_iff.1 hh).1,T,s,?_⟩
   rw [hh,hcs]
   rfl
 · cases hv0
end Timed
namespace Timed
open Go.ChangeShapes Go.WideShapes Go.ChangeAt Go.RowKit
theorem ex_tns {es:List (List AV)}(h:∀ r∈es,okAs [.bool,.bool,.int .i64,.int .u32,.int .i64,.int .u8] r):∃ l:List Tn,es=tns l∧∀ x∈l,0≤x.tm∧x.tm≤4294967295∧0≤x.to∧x.to≤255:=by
 have key:∀ r∈es,∃ x:Tn,r=x.cs∧(0≤x.tm∧x.tm≤4294967295∧0≤x.to∧x.to≤255):=by
  intro r hr
  obtain ⟨a,_,rfl,k1⟩:=un_bool (h r hr)
  obtain ⟨b,_,rfl,k2⟩:=un_bool k1
  obtain ⟨c,_,rfl,_,k3⟩:=un_int k2
  obtain ⟨d,_,rfl,hd,k4⟩:=un_int k3
  obtain ⟨e,_,rfl,_,k5⟩:=un_int k4
  obtain ⟨f,_,rfl,hf,k6⟩:=un_int k5
  obtain rfl:=okAs_unnil k6
  exact ⟨⟨a,b,c,d,e,f⟩,rfl,(bounds_u32 hd).1,(bounds_u32 hd).2,bounds_u8 hf⟩
 obtain ⟨l,hl,hp⟩:=ex_map key
 exact ⟨l,hl,hp⟩
open Classical in
noncomputable def CF5 (l:List Tn):List AV→List AV→Option (Prop×AV×List AV):=λ_ ys=>if ys= [.lst [.bool false,.bool false,.int .i64 0,.int .u32 0,.int .i64 0,.int .u8 0] (tns l)] then some (True,.bool true,[]) else none
theorem s5 (l:List Tn)(hu:∀ x∈l,0≤x.tm∧x.tm≤4294967295∧0≤x.to∧x.to≤255):Sound Tryz.prog 5 (.mk false (CF5 l)):=
 Qb0 (by kernel_rfl) (Qa0 s6 (Qa0 s16 (Qa0 s17 (Qa0 s18 (Qa0 s19 (Qa0 s20 (Qa0 s21 (Qa0 s22 (Qa0 s23 (Qa0 s24 (Qa0 s25 (Qa0 s26 (Qa0 s27 Qc0))))))))))))) Tryz.func5 rfl rc5_ok rv5_ok (by
 intro xs q r cs' h _
 unfold CF5 at h
 split at h
 · rename_i e'; subst e'
   cases h
   by_cases hl:l.length≤60
   · exact ⟨I5 l TIp TJp,rfl,Nat.le_of_ble_eq_true rfl,walk5 rfl rfl rfl rfl rfl rfl rfl rfl rfl rfl rfl rfl rfl l TIp TJp (L5p l hl hu) hu⟩
   · exact ⟨noI,rfl,Nat.le_of_ble_eq_true rfl,walk5x rfl rfl rfl rfl rfl rfl rfl rfl rfl rfl rfl rfl rfl l (decide_eq_true (by omega))⟩
 · cases h
 )
theorem own:ownKnob Tryz.prog.godebug=none:=by kernel_rfl
theorem laidOut:laidOutB Tryz.prog=true:=by kernel_rfl
set_option maxRecDepth 100000 in
theorem lifted (os:Os)(started:os.Started)(H:Type)(enc:TypeId×Value→H):
 ReturnsInHanded {} Tryz.checked os 5 .any (λw args=>(Rows.topTimedSpec.pre enc Tryz.prog Tryz.f5 [] false w args∧laidMetH Tryz.prog laidL w)∧sizedMet enc Tryz.prog Tryz.f5 (OpenSpec.ofChange Rows.topTimedSpec) false w args)
  (Rows.topTimedSpec.post enc Tryz.prog Tryz.f5 false true false false):=by
 refine returnsInHanded_of_change_and (C:=Tryz.checked) (X:=λw _=>laidMetH Tryz.prog laidL w) (λ_ _ _ hh h=>h.of_heap hh) own started (by kernel_rfl) Tryz.func5
  (ChangeSpec.witness_shaped (enc:=enc) (C:=Tryz.checked) (os:=os) (X:=λw _=>laidMetH Tryz.prog laidL w) false (World.doorLaid Tryz.prog 400 os) #[(.slice none 0 0)] 8 rfl (World.shaped_of_RefB (by kernel_rfl) (by kernel_rfl)) (by kernel_rfl) (by kernel_rfl) (by kernel_rfl) (door_met os _)) ?_
 intro W base args ds gs before hval0 hW _ _ hL _
 have hval:∀ (j:Nat) t v,Tryz.f5.params[j]? =some t→args[j]? =some v→Value.okWide Tryz.prog W .any base t v:=hval0
 have hW':=hW
 obtain ⟨p,q,hA0,hV,rfl,hfz,hnd⟩:=hW
 have hA:DataW.TrodAll enc Tryz.prog W 0 (λ_=>true) true Tryz.f5.params.toList args.toList ds p:=hA0
 rw [Tryz.params5] at hA hval
 obtain ⟨v0,vs0,d0,ds0,p0,q0,hargs,rfl,rfl,h0,r0⟩:=trodAll_cons hA
 obtain ⟨rfl,rfl,rfl⟩:=trodAll_nil r0
 obtain rfl:args= #[v0]:=by cases args; simp_all
 obtain ⟨rfl,rfl⟩:=trodVars_none hV
 have lt0:∀ x∈p0,x.block < W.heap.size:=by obtain ⟨m,hm⟩:=h0; exact DataW.trod_lt m _ _ _ hm
 have hZ:∀ b,b < W.heap.size→(λb=>b < W.heap.size) b:=λ_ h=>h
 obtain ⟨a0,l0,w0,e0⟩:=arg_sl hZ Tryz.underlying61 8 (D:=[.bool,.bool,.int .i64,.int .u32,.int .i64,.int .u8]) (by kernel_rfl) (hval 0 61 v0 rfl rfl) h0
 clear hA0 hval0
 obtain ⟨l,rfl,hu⟩:=ex_tns w0
 have hS:=s5 l hu
 have hC:CF5 l [] [.lst [.bool false,.bool false,.int .i64 0,.int .u32 0,.int .i64 0,.int .u8 0] (tns l)] =some (True,.bool true,[]):=by simp [CF5]
 have hq:=True.intro
 refine (law_calls hS (of_laid hL) (Reps.cons' e0 Reps.nil') hC hq).mono λe W' ⟨he,bel⟩=>?_
 subst he
 exact ⟨_,rfl,_,_,_,[],_,[],hW',trodAll_mk1 (shut_bool Tryz.underlying4 _),(trodAll_cons_mk (Below.trod laidOut (by kernel_rfl) (of_decide_eq_true (by kernel_rfl)) h0 bel lt0) trodAll_mk0),rfl,bel.frame _,λh=>by cases h⟩
theorem over:Rows.topTimedRow.holds Tryz.pinned (OpenSpec.ofChange Rows.topTimedSpec):=
 OpenClaim.holds_of_wide 5 Tryz.f5 rfl rfl rfl rfl rfl rfl rfl ⟨rfl,rfl,rfl,rfl,rfl⟩ rfl rfl rfl rfl rfl (by kernel_rfl) Tryz.func5 (by kernel_rfl)
  (of_decide_eq_true (by kernel_rfl)) (by unfold Func.isWrapper; first | (rw [if_pos (by decide +kernel)]; kernel_rfl) | (rw [if_neg (by decide +kernel)]; exact ⟨rfl,rfl⟩))
  (λos started H enc _=>lifted os started H enc)
theorem proved:Rows.TopTimedCardSaid:=
 Claim7.holds_tied_plain_at .later [] [.widerDeep] true (true,"ba7e5234d014e39aefa8098911d24cb5691d9f787da6d2c6dc44818642b90ee9") false
  over (λ_ h=>by cases h) (by kernel_rfl) (λ_ h=>by cases h) topTimed_row_tie rfl ⟨rfl,rfl⟩ (by kernel_rfl) rfl
  (λf fn hf hfn=>by
   obtain rfl:f=5:=Option.some.inj ((show Tryz.prog.funcNamed "baseboard/baseboardtop.TopTimed" =some 5 by kernel_rfl).symm.trans hf) |>.symm
   obtain rfl:fn=Tryz.f5:=(Option.some.inj (Tryz.func5.symm.trans hfn)).symm
   exact ⟨by kernel_rfl,λj t ht=>by
    rw [Tryz.params5] at ht
    have hm:t∈ [61]:=by simpa using Array.mem_of_getElem? ht
    have hall:([61].all λu=>!Tryz.prog.wantsStandIn u) =true:=by kernel_rfl
    exact (show Tryz.prog.wantsStandIn t=false by simpa using List.all_eq_true.1 hall t hm)⟩)
  (by kernel_rfl)
#print axioms proved
end Timed
end Go.Proofs.YthgmdkokaflgjaaGreatDoor
