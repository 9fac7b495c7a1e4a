import Derived.Test.YtcfpcafnjgpfdaaGreatK21
set_option linter.unusedVariables false
set_option linter.unusedSimpArgs false

namespace Go.Proofs.YtcfpcafnjgpfdaaGreat
open Go.RowKit

set_option maxHeartbeats 8000000
set_option maxRecDepth 100000
section
theorem pow_mod(i:Nat)(h:i<32):(2:Int) ^ i%4294967296=(2:Int) ^ i:=by
 have hp:(2:Int) ^ i=((2 ^ i:Nat):Int):=(Int.natCast_pow 2 i).symm
 have h0:2 ^ i<=2 ^ 31:=Nat.pow_le_pow_right (by omega) (by omega)
 rw[hp]
 rw[show (2:Nat) ^ 31=2147483648 by decide] at h0
 generalize 2 ^ i=s at *
 omega
theorem td32(k:Nat):((k:Nat):Int).tdiv 32=((k/32:Nat):Int):=tdiv_nat k 32
theorem tm32(k:Nat):((k:Nat):Int).tmod 32=((k%32:Nat):Int):=tmod_nat k 32
attribute [local go_sem] td32 tm32
theorem or_bit(x i:Nat)(hx:x+2 ^ i<4294967296)(h:x ||| 2 ^ i=x+2 ^ i):bits .or .u32 (x:Int) (2 ^ i:Int)=((x+2 ^ i:Nat):Int):=by
 have hp:(2:Int) ^ i=((2 ^ i:Nat):Int):=(Int.natCast_pow 2 i).symm
 rw[hp]
 generalize 2 ^ i=s at *
 rw[u32_or_nat x s (by omega) (by omega),h]
theorem and_bit(x i:Nat)(hx:x<4294967296):bits .and .u32 ((x:Int)/2 ^ i) 1=((x/2 ^ i%2:Nat):Int):=by
 have hp:(2:Int) ^ i=((2 ^ i:Nat):Int):=(Int.natCast_pow 2 i).symm
 have e:(x:Int)/2 ^ i=((x/2 ^ i:Nat):Int):=by rw[hp];rfl
 have hl:x/2 ^ i<=x:=Nat.div_le_self _ _
 have:=u32_and_nat (x/2 ^ i) 1 (by omega) (by omega)
 rw[e,show (1:Int)=((1:Nat):Int) from rfl,this,Nat.and_one_is_mod]
theorem cmp_digs{r V:Nat}{b:List Nat}(db:Dig b)(tb:Tight b)(hV:val b=V):(0<=cmpL (digs r) b) <-> V<=r:=by
 have h:=cmpL_neg (dig_digs r) db (tight_digs r) tb
 rw[val_digs,hV] at h
 omega
theorem r01_quotient(a b:List Nat)(pa pb:Option Addr)(la ca lb cb:Nat)(w:World)(ha:Row w pa ca a)(hb:Row w pb cb b)(hla:la=a.length)(hlb:lb=b.length)(tb:Tight b)(h64:a.length<=900)(hb64:b.length<=900)(hb0:0<val b) :
  Calls Tryz.prog 105 #[.slice pa la ca,.slice pb lb cb] w (RetQR w (digs (val a/val b)) (digs (val a%val b))):=by
 subst hla hlb
 obtain⟨ii,hii,hz0,hz1,hz2⟩:=info_parts info32
 have hla:=ha.le
 have hma:=ha.max
 have hlb:=hb.le
 have hmb:=hb.max
 obtain⟨A,HA⟩:∃A,Hid (val a=A):=⟨_,rfl⟩
 obtain⟨V,HV⟩:∃V,Hid (val b=V):=⟨_,rfl⟩
 obtain⟨m,HM⟩:∃m,Hid (a.length=m):=⟨_,rfl⟩
 have hA:A<2 ^ (32*m):=by
  have:=val_lt ha.dig
  rw[HA.out,HM.out,show (4294967296:Nat)=2 ^ 32 from rfl,<- Nat.pow_mul] at this
  exact this
 have hVl:V<4294967296 ^ b.length:=by rw[<- HV.out];exact val_lt hb.dig
 have ROWA:=Lib.hid ha
 have ROWB:=Lib.hid hb
 have DA:=Lib.hid ha.dig
 have hla2:a.length<=m:=Nat.le_of_eq HM.out
 have hla3:m<=a.length:=Nat.le_of_eq HM.out.symm
 have CD:=Lib.hid (fun r=>cmp_digs (r:=r) hb.dig tb HV.out)
 rw[HV.out] at hb0
 rw[HA.out,HV.out,HM.out]
 rw[HM.out] at hla h64
 have RL:=Lib.hid (fun r (h:r<V+V)=>show (digs r).length<=1000 from Nat.le_trans ((digs_length_le r (b.length+1)).2 (by rw[Nat.pow_succ];omega)) (by omega))
 clear ha hb
 go_enter Tryz.func105,Tryz.ntmps105
 go_wp2_with (at_make;refine wpList_make_full _ rfl _ _ 30 rfl w.heap.size 113 ii (.int .u32 0) 1 Tryz.underlying30 hii hz0 hz1 _ _ _ _ m rfl rfl (by omega) (by omega) (by rw[hz2];omega) (by unfold maxLen;omega) (Nat.le_refl _) ?_)
 all_goals
  intro w1 hown hgr
  rw[show (madeCells #[Value.int IntKind.u32 0] m).toList=enc (List.replicate m 0) from by rw[enc,List.map_replicate];exact toList_madeCells_one _ _] at hown
  have hx1:Ext w w1:=⟨hgr.os,hgr.tape,hgr.output,hgr.size,fun k hk=>hgr.block k hk (by simp)⟩
  clear hgr
  go_wp2_with fail
  go_loopw [7,8] (fun rs ks wr=>∃(k r:Nat) (q:List Nat) (pr:Option Addr) (lr cr:Nat),ks=.int .i64 ((k:Int)-1)/\rs=.slice pr lr cr/\lr=(digs r).length/\Row wr pr cr (digs r)/\BitInv A V k m q r/\k<=32*m/\wr.ownsRow w.heap.size 113 1 (.slice (some ⟨w.heap.size,0,none⟩) m m) m (enc q)/\Ext w wr) (fun _ ks _=>(intOf ks+1).toNat)
  case atStart=>exact⟨32*m,0,_,none,0,0,by push_cast;rfl,rfl,by rw[digs_zero];rfl,by rw[digs_zero];exact Row.nil _,bit_start hb0 hA,Nat.le_refl _,hown,hx1⟩
  case round =>
   clear hown hx1
   obtain⟨k,r,q,pr,lr,cr,rfl,rfl,hlr,hrow,hinv,hk,hown,hx⟩:=hrel
   have LR:=Lib.hid hlr
   clear hlr
   cases k with
   | zero =>
    obtain⟨E1,E2⟩:=bit_end hb0 hinv
    have e:(((0:Nat):Int)-1) = -1:=by omega
    rw[e]
    clear e
    have hql:=hinv.len
    obtain⟨pq,cq,hvq,hrowQ,_⟩:=row_of_owns (d:=q) hown hinv.dig
    injection hvq with e1 e2 e3
    subst e1
    rw[<- e3] at hrowQ
    have EQ:=Lib.hid (show trim q=digs (A/V) by unfold trim;rw[E1])
    have TQ:=Lib.hid (r01_trim q _ _ _ _ hrowQ hql.symm)
    rw[EQ.out] at TQ
    have HR:=Lib.hid (E2 ▸ hrow)
    have HL:=Lib.hid (E2 ▸ LR.out)
    clear hinv hown hrow E1 E2 e2 e3 hrowQ LR
    go_wp2_with fail
    refine TQ.out.mono ?_
    rintro e w5 ⟨rfl,hr5,hx5⟩
    have HR5:=Lib.hid hr5
    have HRR:=Lib.hid (HR.out.ext hx5)
    have hx6:Ext w w5:=Ext.step hx hx5
    clear hr5 hx5
    go_wp2
    go_ret2
    exact⟨_,_,_,_,by rw[<- HL.out];rfl,HR5.out,HRR.out,hx6⟩
   | succ k =>
    have e:(((k+1:Nat):Int)-1)=(k:Int):=by omega
    rw[e]
    clear e
    have hr:=hinv.lt
    have PL:=Lib.hid (r01_plus (digs r) (digs r) pr pr lr cr lr cr wr hrow hrow LR.out LR.out (RL.out r (by omega)) (RL.out r (by omega)))
    rw[val_digs] at PL
    have hjm:k/32<m:=by omega
    have hi32:k%32<32:=Nat.mod_lt _ (by omega)
    have BA:=bit_at DA.out k
    rw[HA.out] at BA
    obtain⟨t,BL1,BL2,BL3⟩:=bit_low hinv
    have XD:=DA.out.getD (k/32)
    rw[List.getD_eq_getElem?_getD] at XD
    have b1:A/2 ^ k%2<2:=Nat.mod_lt _ (by omega)
    obtain⟨bv,BV⟩:∃x,Hid (A/2 ^ k%2=x):=⟨_,rfl⟩
    rw[BV.out] at BA b1
    have hql:k/32<q.length:=by rw[hinv.len];exact hjm
    have kq:=own_cell hown (k/32) _ hjm BL1
    have fq:=World.ownsRow.frozenAt hown (k/32)
    obtain⟨y,Y⟩:∃x,Hid (2 ^ (k%32)*(2*t)=x):=⟨_,rfl⟩
    rw[Y.out] at BL1 BL2 BL3 kq
    have OB:=or_bit y (k%32) BL2 BL3
    obtain⟨ba,oa,rfl,hba,hca⟩:=ROWA.out.at (by omega)
    have ka0:=hca (k/32) (by omega)
    have AB:=and_bit (a[k/32]?.getD 0) (k%32) XD
    rw[BA] at AB
    have hs0:2 ^ (k%32)<=2 ^ 31:=Nat.pow_le_pow_right (by omega) (by omega)
    have hsp:(2:Int) ^ (k%32)=((2 ^ (k%32):Nat):Int):=(Int.natCast_pow 2 (k%32)).symm
    have SW:=pow_mod (k%32) hi32
    clear hsp
    obtain⟨x,X⟩:∃x,Hid (a[k/32]?.getD 0=x):=⟨_,rfl⟩
    rw[X.out] at ka0 AB XD
    obtain⟨z,Z⟩:∃x,Hid (y+2 ^ (k%32)=x):=⟨_,rfl⟩
    rw[Z.out] at OB
    have ONE:=Lib.hid (fun hge=>bit_one hinv BV.out hge hjm BL1 BL2)
    have ZERO:=Lib.hid (fun hlt=>bit_zero hinv BV.out hlt)
    rw[Z.out] at ONE
    have OWN:=Lib.hid hown
    have EX0:=Lib.hid hx
    clear hca hinv hown hrow hs0 BL1 BL2 BL3 BA
    go_wp2_with fail
    refine PL.out.mono ?_
    rintro e w2 ⟨p2,c2,rfl,hr2,_,hx2⟩
    rw[show r+r=2*r by omega] at hr2 ⊢
    have hxx2:Ext w w2:=Ext.step hx hx2
    have ka2:w2.cell? ⟨ba,oa+k/32,none⟩=some (.int .u32 (x:Int)):=(hxx2.cell (p:=⟨ba,oa+k/32,none⟩) hba).trans ka0
    clear PL
    by_cases hbv:bv=1
    ·skip
     have E1:((bv:Int)==1)=true:=by rw[hbv];rfl
     have HBV:=Lib.hid hbv
     have PL2:=Lib.hid (fun g W (hW:Ext w2 W) (k:Row W (some ⟨g,0,none⟩) 1 [1])=>r01_plus (digs (2*r)) [1] p2 (some ⟨g,0,none⟩) (digs (2*r)).length c2 1 1 W (hr2.ext hW) k rfl rfl (RL.out (2*r) (by omega)) (by simp))
     rw[val_digs,val_one,show 2*r+1=2*r+bv by rw[HBV.out]] at PL2
     clear hbv hr2
     go_wp2_with fail
     refine (PL2.out _ _ bxx (row_one _ 1 _ _ (by decide) rfl)).mono ?_
     rintro e w3 ⟨p3,c3,rfl,hr3,_,hx3a⟩
     have hx3:Ext wr w3:=hx2.trans ((Ext.step bxx hx3a:Ext w2 w3).mono hx2.size)
     clear hx3a hx2 PL2
     have hxx3:Ext w w3:=EX0.out.trans (hx3.mono EX0.out.size)
     have CP:=Lib.hid (r01_compare (digs (2*r+bv)) b p3 pb (digs (2*r+bv)).length c3 b.length cb w3 hr3 (ROWB.out.ext hxx3) rfl rfl)
     by_cases hge:V<=2*r+bv
     ·have D1 : decide (0 <= cmpL (digs (2 * r + bv)) b) = true := by rw [decide_eq_true_eq]; exact (CD.out _).2 hge
      have ONE2:=Lib.hid (ONE.out hge)
      obtain⟨c,C⟩:∃c,Hid (cmpL (digs (2*r+bv)) b=c):=⟨_,rfl⟩
      rw[C.out] at CP D1
      have LR3:=RL.out (2*r+bv) (by omega)
      have LB3:=tight_len (dig_digs (2*r+bv)) tb (by rw[val_digs,HV.out];exact hge)
      obtain⟨l3,L3⟩:∃l,Hid ((digs (2*r+bv)).length=l):=⟨_,rfl⟩
      rw[L3.out] at CP LR3 LB3 ⊢
      have MN:=Lib.hid (fun W (hW:Ext w3 W)=>r01_minus (digs (2*r+bv)) b p3 pb l3 c3 b.length cb W (hr3.ext hW) (ROWB.out.ext (hxx3.trans (hW.mono hxx3.size))) L3.out.symm rfl (by rw[L3.out];omega) (by rw[L3.out];exact LB3) (by rw[val_digs,HV.out];exact hge))
      rw[val_digs,HV.out] at MN
      have HR3:=Lib.hid hr3
      clear hr3 hge
      go_wp2_with fail
      refine CP.out.mono ?_
      rintro e w4 ⟨rfl,hx4⟩
      go_wp2_with fail
      refine (MN.out _ hx4).mono ?_
      rintro e w5 ⟨p5,c5,rfl,hr5,hnew5,hx5⟩
      have hx6:Ext w3 w5:=Ext.step hx4 hx5
      have hx7:Ext wr w5:=hx3.trans (hx6.mono hx3.size)
      have hown5:=ownsRow_extT OWN.out hx7
      have kq5:=(hx7.cell (p:=⟨w.heap.size,k/32,none⟩) (World.ownsRow.lt OWN.out w.heap.size rfl).2).trans kq
      have fq5:=World.ownsRow.frozenAt hown5 (k/32)
      have hxx5:Ext w w5:=EX0.out.trans (hx7.mono EX0.out.size)
      have hwl:=(World.ownsRow.lt hown5 w.heap.size rfl).2
      have hwl0:=(World.ownsRow.lt OWN.out w.heap.size rfl).2
      obtain⟨hown6,_⟩:=World.ownsRow.stored (w:=w5.drew) hown5 (k/32) (.int .u32 (z:Int))
      have eS:(enc q).set (k/32) (.int .u32 (z:Int))=enc (q.set (k/32) z):=by rw[enc,enc,List.map_set]
      rw[eS] at hown6
      have OWN6:=Lib.hid hown6
      have hx8:Ext w (w5.drew.setCell ⟨w.heap.size,k/32,none⟩ (.int .u32 (z:Int))):=(Below.drew hxx5).setCell (Nat.le_refl _) _
      have ROW6:Hid (Row (w5.drew.setCell ⟨w.heap.size,k/32,none⟩ (.int .u32 (z:Int))) p5 c5 (digs (2*r+bv-V))):=Row.set (w:=w5.drew) hr5 hnew5 ⟨w.heap.size,k/32,none⟩ (by have:=hx3.size;have:=hx4.size;show w.heap.size<w4.heap.size;omega) _
      have X8:=Lib.hid hx8
      clear hown5 hown6 hx8 hxx5 hx7 hx6 hx5 hx4 hr5 CP MN
      have hI1:(k:Int)/32<(m:Int):=by omega
      have hI2:(0:Int)<=(k:Int)/32:=by omega
      have hI3:IntKind.i64.wrap ((k:Int)/32)=(k:Int)/32:=IntWalk.i64_in _ (by omega)
      have hI4:((k:Int)/32).toNat=k/32:=by omega
      have hI5:IntKind.i64.wrap ((k:Int)%32)=(k:Int)%32:=IntWalk.i64_in _ (by omega)
      have hI6:((k:Int)%32).toNat=k%32:=by omega
      have hI7:(0:Int)<=(k:Int)%32:=by omega
      have hI8:(k:Int)%32<32:=by omega
      go_upto_region 11 with (fail)
      go_still_tail 13,(by kernel_rfl)
      go_wp2
      exact⟨⟨k,2*r+bv-V,q.set (k/32) z,p5,_,c5,rfl,rfl,rfl,ROW6.out,ONE2.out,by omega,OWN6.out,X8.out⟩,by simp[intOf]⟩
     ·have hlt : 2 * r + bv < V := by omega
      have D1:decide (0<=cmpL (digs (2*r+bv)) b)=false:=by rw[decide_eq_false_iff_not,CD.out];exact hge
      have ZERO2:=Lib.hid (ZERO.out hlt)
      obtain⟨c,C⟩:∃c,Hid (cmpL (digs (2*r+bv)) b=c):=⟨_,rfl⟩
      rw[C.out] at CP D1
      have HR3:=Lib.hid hr3
      obtain⟨l3,L3⟩:∃l,Hid ((digs (2*r+bv)).length=l):=⟨_,rfl⟩
      rw[L3.out] at CP ⊢
      clear hr3 hge
      go_wp2_with fail
      refine CP.out.mono ?_
      rintro e w4 ⟨rfl,hx4⟩
      have hx7:Ext wr w4:=hx3.trans (hx4.mono hx3.size)
      have OWN4:=Lib.hid (ownsRow_extT OWN.out hx7)
      have X4:=Lib.hid (EX0.out.trans (hx7.mono EX0.out.size))
      have HR4:=Lib.hid (HR3.out.ext hx4)
      clear hx7 hx4 CP
      go_wp2
      exact⟨⟨k,2*r+bv,q,p3,l3,c3,rfl,rfl,L3.out.symm,HR4.out,ZERO2.out,by omega,OWN4.out,X4.out⟩,by simp[intOf]⟩
    ·skip
     have hb0':bv=0:=by omega
     have E1:((bv:Int)==1)=false:=by rw[hb0'];rfl
     have eR:2*r=2*r+bv:=by omega
     have hr3:Row w2 p2 c2 (digs (2*r+bv)):=by rw[<- eR];exact hr2
     rw[show (digs (2*r)).length=(digs (2*r+bv)).length by rw[<- eR]]
     clear hb0' hbv hr2 eR
     have hxx3:Ext w w2:=EX0.out.trans (hx2.mono EX0.out.size)
     have CP:=Lib.hid (r01_compare (digs (2*r+bv)) b p2 pb (digs (2*r+bv)).length c2 b.length cb w2 hr3 (ROWB.out.ext hxx3) rfl rfl)
     by_cases hge:V<=2*r+bv
     ·have D1 : decide (0 <= cmpL (digs (2 * r + bv)) b) = true := by rw [decide_eq_true_eq]; exact (CD.out _).2 hge
      have ONE2:=Lib.hid (ONE.out hge)
      obtain⟨c,C⟩:∃c,Hid (cmpL (digs (2*r+bv)) b=c):=⟨_,rfl⟩
      rw[C.out] at CP D1
      have LR3:=RL.out (2*r+bv) (by omega)
      have LB3:=tight_len (dig_digs (2*r+bv)) tb (by rw[val_digs,HV.out];exact hge)
      obtain⟨l3,L3⟩:∃l,Hid ((digs (2*r+bv)).length=l):=⟨_,rfl⟩
      rw[L3.out] at CP LR3 LB3 ⊢
      have MN:=Lib.hid (fun W (hW:Ext w2 W)=>r01_minus (digs (2*r+bv)) b p2 pb l3 c2 b.length cb W (hr3.ext hW) (ROWB.out.ext (hxx3.trans (hW.mono hxx3.size))) L3.out.symm rfl (by rw[L3.out];omega) (by rw[L3.out];exact LB3) (by rw[val_digs,HV.out];exact hge))
      rw[val_digs,HV.out] at MN
      have HR3:=Lib.hid hr3
      clear hr3 hge
      go_wp2_with fail
      refine CP.out.mono ?_
      rintro e w4 ⟨rfl,hx4⟩
      go_wp2_with fail
      refine (MN.out _ hx4).mono ?_
      rintro e w5 ⟨p5,c5,rfl,hr5,hnew5,hx5⟩
      have hx6:Ext w2 w5:=Ext.step hx4 hx5
      have hx7:Ext wr w5:=hx2.trans (hx6.mono hx2.size)
      have hown5:=ownsRow_extT OWN.out hx7
      have kq5:=(hx7.cell (p:=⟨w.heap.size,k/32,none⟩) (World.ownsRow.lt OWN.out w.heap.size rfl).2).trans kq
      have fq5:=World.ownsRow.frozenAt hown5 (k/32)
      have hxx5:Ext w w5:=EX0.out.trans (hx7.mono EX0.out.size)
      have hwl:=(World.ownsRow.lt hown5 w.heap.size rfl).2
      have hwl0:=(World.ownsRow.lt OWN.out w.heap.size rfl).2
      obtain⟨hown6,_⟩:=World.ownsRow.stored (w:=w5.drew) hown5 (k/32) (.int .u32 (z:Int))
      have eS:(enc q).set (k/32) (.int .u32 (z:Int))=enc (q.set (k/32) z):=by rw[enc,enc,List.map_set]
      rw[eS] at hown6
      have OWN6:=Lib.hid hown6
      have hx8:Ext w (w5.drew.setCell ⟨w.heap.size,k/32,none⟩ (.int .u32 (z:Int))):=(Below.drew hxx5).setCell (Nat.le_refl _) _
      have ROW6:Hid (Row (w5.drew.setCell ⟨w.heap.size,k/32,none⟩ (.int .u32 (z:Int))) p5 c5 (digs (2*r+bv-V))):=Row.set (w:=w5.drew) hr5 hnew5 ⟨w.heap.size,k/32,none⟩ (by have:=hx2.size;have:=hx4.size;show w.heap.size<w4.heap.size;omega) _
      have X8:=Lib.hid hx8
      clear hown5 hown6 hx8 hxx5 hx7 hx6 hx5 hx4 hr5 CP MN
      have hI1:(k:Int)/32<(m:Int):=by omega
      have hI2:(0:Int)<=(k:Int)/32:=by omega
      have hI3:IntKind.i64.wrap ((k:Int)/32)=(k:Int)/32:=IntWalk.i64_in _ (by omega)
      have hI4:((k:Int)/32).toNat=k/32:=by omega
      have hI5:IntKind.i64.wrap ((k:Int)%32)=(k:Int)%32:=IntWalk.i64_in _ (by omega)
      have hI6:((k:Int)%32).toNat=k%32:=by omega
      have hI7:(0:Int)<=(k:Int)%32:=by omega
      have hI8:(k:Int)%32<32:=by omega
      go_upto_region 11 with (fail)
      go_still_tail 13,(by kernel_rfl)
      go_wp2
      exact⟨⟨k,2*r+bv-V,q.set (k/32) z,p5,_,c5,rfl,rfl,rfl,ROW6.out,ONE2.out,by omega,OWN6.out,X8.out⟩,by simp[intOf]⟩
     ·have hlt : 2 * r + bv < V := by omega
      have D1:decide (0<=cmpL (digs (2*r+bv)) b)=false:=by rw[decide_eq_false_iff_not,CD.out];exact hge
      have ZERO2:=Lib.hid (ZERO.out hlt)
      obtain⟨c,C⟩:∃c,Hid (cmpL (digs (2*r+bv)) b=c):=⟨_,rfl⟩
      rw[C.out] at CP D1
      have HR3:=Lib.hid hr3
      obtain⟨l3,L3⟩:∃l,Hid ((digs (2*r+bv)).length=l):=⟨_,rfl⟩
      rw[L3.out] at CP ⊢
      clear hr3 hge
      go_wp2_with fail
      refine CP.out.mono ?_
      rintro e w4 ⟨rfl,hx4⟩
      have hx7:Ext wr w4:=hx2.trans (hx4.mono hx2.size)
      have OWN4:=Lib.hid (ownsRow_extT OWN.out hx7)
      have X4:=Lib.hid (EX0.out.trans (hx7.mono EX0.out.size))
      have HR4:=Lib.hid (HR3.out.ext hx4)
      clear hx7 hx4 CP
      go_wp2
      exact⟨⟨k,2*r+bv,q,p2,l3,c2,rfl,rfl,L3.out.symm,HR4.out,ZERO2.out,by omega,OWN4.out,X4.out⟩,by simp[intOf]⟩
end

set_option maxHeartbeats 4000000
set_option maxRecDepth 100000
section
attribute [local go_sem] Gives givesU
theorem RDiv_no(a b:Nm)(na nb:Bool)(pa pb:Option Addr)(la ca lb cb:Nat)(w:World)(ha:NR w na pa la ca a)(hb:NR w nb pb lb cb b)
  (hno:a.right=false\/b.right=false\/b.neg=true\/b.d.length=0):Calls Tryz.prog 83 #[.agg #[.bool na,.slice pa la ca],.agg #[.bool nb,.slice pb lb cb]] w (RetDiv w (divP a b)):=by
 have RA:=Lib.hid (fun w' (hx:Ext w w')=>r01_Right a na pa la ca w' (ha.ext hx))
 have RB:=Lib.hid (fun w' (hx:Ext w w')=>r01_Right b nb pb lb cb w' (hb.ext hx))
 have NO:∀W',Ext w W'->RetDiv w (divP a b) (.returned (.tuple #[.agg #[.bool false,.slice none 0 0],.agg #[.bool false,.slice none 0 0],.bool false])) W':=by
  intro W' hx
  rw[divP_no hno]
  exact⟨false,none,0,0,false,none,0,0,rfl,⟨rfl,rfl,Row.nil _⟩,⟨rfl,rfl,Row.nil _⟩,New.none _,New.none _,hx⟩
 replace NO:=Lib.hid NO
 have hnb:=hb.1
 have hlb:=hb.2.1
 rw[hnb] at RB ⊢
 rw[hlb] at RB ⊢
 have HNO:=Lib.hid hno
 clear hnb hlb hno ha hb
 cases ra:a.right with
 | false =>
  rw[ra] at RA
  go_enter Tryz.func83,Tryz.ntmps83
  go_wp2_with fail
  refine (RA.out _ bxx).mono ?_
  rintro e w1 ⟨rfl,hx⟩
  have hx0:Ext w w1:=Ext.step bxx hx
  obtain⟨_,⟨_,_,_⟩,⟨_,_,_⟩,⟨_,_,_⟩,_,_,_⟩:=keepK4 hx w.heap.size
  go_wp2
  refine bodyPost_ret (v:=.tuple #[.agg #[.bool false,.slice none 0 0],.agg #[.bool false,.slice none 0 0],.bool false]) (by simp only[results,Tryz.results83];go_simp) rfl ?_
  exact NO.out _ bxx
 | true =>
  rw[ra] at RA
  cases rb:b.right with
  | false =>
   rw[rb] at RB
   go_enter Tryz.func83,Tryz.ntmps83
   go_wp2_with fail
   refine (RA.out _ bxx).mono ?_
   rintro e w1 ⟨rfl,hx⟩
   have hx0:Ext w w1:=Ext.step bxx hx
   obtain⟨_,⟨_,_,_⟩,⟨_,_,_⟩,⟨_,_,_⟩,_,_,_⟩:=keepK4 hx w.heap.size
   go_wp2_with fail
   refine (RB.out _ bxx).mono ?_
   rintro e w2 ⟨rfl,hx2⟩
   have hx1:Ext w w2:=Ext.step bxx hx2
   obtain⟨_,⟨_,_,_⟩,⟨_,_,_⟩,⟨_,_,_⟩,_,_,_⟩:=keepK4 hx2 w.heap.size
   go_wp2
   refine bodyPost_ret (v:=.tuple #[.agg #[.bool false,.slice none 0 0],.agg #[.bool false,.slice none 0 0],.bool false]) (by simp only[results,Tryz.results83];go_simp) rfl ?_
   exact NO.out _ bxx
  | true =>
   rw[rb] at RB
   obtain⟨bn,BN⟩:∃x,Hid (b.neg=x):=⟨_,rfl⟩
   obtain⟨bl,BL⟩:∃x,Hid (b.d.length=x):=⟨_,rfl⟩
   have H3:bn=true\/bl=0:=by
    rcases HNO.out with h|h|h|h
    ·rw[ra] at h;cases h
    ·rw[rb] at h;cases h
    ·exact .inl (BN.out.symm.trans h)
    ·exact .inr (BL.out.symm.trans h)
   rw[BN.out,BL.out] at RB ⊢
   clear ra rb
   cases bn
   ·obtain rfl : bl = 0 := by rcases H3 with h | h; (cases h); exact h
    clear H3
    go_enter Tryz.func83,Tryz.ntmps83
    go_wp2_with fail
    refine (RA.out _ bxx).mono ?_
    rintro e w1 ⟨rfl,hx⟩
    have hx0:Ext w w1:=Ext.step bxx hx
    obtain⟨_,⟨_,_,_⟩,⟨_,_,_⟩,⟨_,_,_⟩,_,_,_⟩:=keepK4 hx w.heap.size
    go_wp2_with fail
    refine (RB.out _ bxx).mono ?_
    rintro e w2 ⟨rfl,hx2⟩
    have hx1:Ext w w2:=Ext.step bxx hx2
    obtain⟨_,⟨_,_,_⟩,⟨_,_,_⟩,⟨_,_,_⟩,_,_,_⟩:=keepK4 hx2 w.heap.size
    go_wp2
    refine bodyPost_ret (v:=.tuple #[.agg #[.bool false,.slice none 0 0],.agg #[.bool false,.slice none 0 0],.bool false]) (by simp only[results,Tryz.results83];go_simp) rfl ?_
    exact NO.out _ bxx
   ·clear H3
    go_enter Tryz.func83,Tryz.ntmps83
    go_wp2_with fail
    refine (RA.out _ bxx).mono ?_
    rintro e w1 ⟨rfl,hx⟩
    have hx0:Ext w w1:=Ext.step bxx hx
    obtain⟨_,⟨_,_,_⟩,⟨_,_,_⟩,⟨_,_,_⟩,_,_,_⟩:=keepK4 hx w.heap.size
    go_wp2_with fail
    refine (RB.out _ bxx).mono ?_
    rintro e w2 ⟨rfl,hx2⟩
    have hx1:Ext w w2:=Ext.step bxx hx2
    obtain⟨_,⟨_,_,_⟩,⟨_,_,_⟩,⟨_,_,_⟩,_,_,_⟩:=keepK4 hx2 w.heap.size
    go_wp2
    refine bodyPost_ret (v:=.tuple #[.agg #[.bool false,.slice none 0 0],.agg #[.bool false,.slice none 0 0],.bool false]) (by simp only[results,Tryz.results83];go_simp) rfl ?_
    exact NO.out _ bxx
end

set_option maxHeartbeats 4000000
set_option maxRecDepth 100000
section
attribute [local go_sem] Gives givesU
theorem RDiv_simple(a b:Nm)(na:Bool)(pa pb:Option Addr)(la ca lb cb:Nat)(w:World)(ha:NR w na pa la ca a)(hb:NR w false pb lb cb b)(ra:a.right=true)(rb:b.right=true)(hlb:0<lb)(dq dr:List Nat)(X Y:Nm)
  (DV:∀W,Ext w W->Calls Tryz.prog 105 #[.slice pa la ca,.slice pb lb cb] W (RetQR W dq dr)) (hs:na=true->dr=[]) (hX:madeP na dq=(X,true)) (hY:madeP false dr=(Y,true)) :
  Calls Tryz.prog 83 #[.agg #[.bool na,.slice pa la ca],.agg #[.bool false,.slice pb lb cb]] w (RetDiv w (X,Y,true)):=by
 have RA:=Lib.hid (fun w' (hx:Ext w w')=>r01_Right a na pa la ca w' (ha.ext hx))
 have RB:=Lib.hid (fun w' (hx:Ext w w')=>r01_Right b false pb lb cb w' (hb.ext hx))
 rw[ra] at RA
 rw[rb] at RB
 have e0:((lb:Int)==0)=false:=by rw[beq_eq_false_iff_ne];omega
 replace DV:=Lib.hid DV
 clear hlb ra rb
 have MK1:=Lib.hid (fun p c W (h:Row W p c dq)=>by have:=r01_made na dq p dq.length c W h rfl;rw[hX] at this;exact this)
 have MK2:=Lib.hid (fun p c W (h:Row W p c dr)=>by have:=r01_made false dr p dr.length c W h rfl;rw[hY] at this;exact this)
 have HS:=Lib.hid hs
 clear hs hX hY
 go_enter Tryz.func83,Tryz.ntmps83
 go_wp2_with fail
 refine (RA.out _ bxx).mono ?_
 rintro e w1 ⟨rfl,hx⟩
 have hx0:Ext w w1:=Ext.step bxx hx
 obtain⟨_,⟨_,_,_⟩,⟨_,_,_⟩,⟨_,_,_⟩,_,_,_⟩:=keepK4 hx w.heap.size
 go_wp2_with fail
 refine (RB.out _ bxx).mono ?_
 rintro e w2 ⟨rfl,hx2⟩
 have hx1:Ext w w2:=Ext.step bxx hx2
 obtain⟨_,⟨_,_,_⟩,⟨_,_,_⟩,⟨_,_,_⟩,_,_,_⟩:=keepK4 hx2 w.heap.size
 go_wp2_with fail
 refine (DV.out _ bxx).mono ?_
 rintro e w3 ⟨p,c,p2,c2,rfl,hq,hr,hx3⟩
 have hx4:Ext w w3:=Ext.step bxx hx3
 obtain⟨hz_w3,⟨_,_,_⟩,⟨_,_,_⟩,⟨_,_,_⟩,_,_,_⟩:=keepK4 hx3 w.heap.size
 cases na
 all_goals
  try obtain rfl:dr=[]:=HS.out rfl
  go_wp2_with fail
  refine (MK1.out _ _ _ (hq.ext bxx)).mono ?_
  rintro e w5 ⟨n5,p5,l5,c5,rfl,hn5,hnew5,hx5⟩
  have hx6:Ext w w5:=Ext.step bxx hx5
  obtain⟨_,⟨_,_,_⟩,⟨_,_,_⟩,⟨_,_,_⟩,_,_,_⟩:=keepK4 hx5 w.heap.size
  go_wp2_with fail
  refine (MK2.out _ _ _ (hr.ext (hx5.alloc hx5.size _))).mono ?_
  rintro e w6 ⟨n6,p6,l6,c6,rfl,hn6,hnew6,hx7⟩
  have hx8:Ext w w6:=Ext.step bxx hx7
  have k5a:w6.cell? ⟨w5.heap.size,0,none⟩=some (.bool n5):=(hx7.cell (p:=⟨w5.heap.size,0,none⟩) (by simp)).trans (by go_simp)
  have k5b:w6.cell? ⟨w5.heap.size,1,none⟩=some (.slice p5 l5 c5):=(hx7.cell (p:=⟨w5.heap.size,1,none⟩) (by simp)).trans (by go_simp)
  have k5l:w5.heap.size<w6.heap.size:=Nat.lt_of_lt_of_le (by simp) hx7.size
  obtain⟨_,⟨_,_,_⟩,⟨_,_,_⟩,⟨_,_,_⟩,_,_,_⟩:=keepK4 hx7 w.heap.size
  have hn5':NR w6 n5 p5 l5 c5 X:=hn5.ext (Below.trans ((Below.refl _ _).alloc (Nat.le_refl _) _) (hx7.mono (by simp)))
  have hnw5:New w3 p5:=hnew5.mono (Nat.le_refl w3.heap.size)
  have hnw6:New w3 p6:=hnew6.mono (by have:=hx5.size;have:=(Nat.le_refl w3.heap.size);simp;omega)
  have z3:w.heap.size+4<=w3.heap.size:=hz_w3
  go_upto_region 11 with (fail)
  refine wp_some (fun W=>Ext w W/\(W.cell? ⟨w.heap.size+1+1,0,none⟩=some (.bool false)/\W.cell? ⟨w.heap.size+1+1,1,none⟩=some (.slice none 0 0)/\W.cell? ⟨w.heap.size+1+1+1,0,none⟩=some (.bool false)/\W.cell? ⟨w.heap.size+1+1+1,1,none⟩=some (.slice none 0 0)/\W.cell? ⟨w5.heap.size,0,none⟩=some (.bool n5)/\W.cell? ⟨w5.heap.size,1,none⟩=some (.slice p5 l5 c5)/\W.cell? ⟨w6.heap.size,0,none⟩=some (.bool n6)/\W.cell? ⟨w6.heap.size,1,none⟩=some (.slice p6 l6 c6)/\(∀o,W.frozen? ⟨w.heap.size+1+1,o,none⟩=false)/\(∀o,W.frozen? ⟨w.heap.size+1+1+1,o,none⟩=false) )/\w.heap.size+4<=W.heap.size/\NR W n5 p5 l5 c5 X/\NR W n6 p6 l6 c6 Y) ?_ ?_
  ·exact⟨bxx,⟨by go_simp,by go_simp,by go_simp,by go_simp,by go_simp,by go_simp,by go_simp,by go_simp,by intro o;go_simp,by intro o;go_simp⟩,by simp;omega,hn5'.alloc _,hn6.alloc _⟩
  obtain⟨A5,HA5⟩:∃x,Hid (w5.heap.size=x):=⟨_,rfl⟩
  obtain⟨A6,HA6⟩:∃x,Hid (w6.heap.size=x):=⟨_,rfl⟩
  have hne1:w.heap.size+1+1≠A5:=by have:=HA5.out;have:=hx5.size;have:=(Nat.le_refl w3.heap.size);omega
  have hne2:w.heap.size+1+1+1≠A5:=by have:=HA5.out;have:=hx5.size;have:=(Nat.le_refl w3.heap.size);omega
  have hne3:w.heap.size+1+1≠A6:=by have:=HA5.out;have:=HA6.out;omega
  have hne4:w.heap.size+1+1+1≠A6:=by have:=HA5.out;have:=HA6.out;omega
  rw[HA5.out,HA6.out]
  rintro V ⟨hxV,⟨v0,v1,v2,v3,v4,v5,v6,v7,vf1,vf2⟩,hzV,hN5,hN6⟩
  have HN5:=Lib.hid hN5
  have HN6:=Lib.hid hN6
  have HXV:=Lib.hid hxV
  have y2:w.heap.size+1+1<V.heap.size:=by omega
  have y3:w.heap.size+1+1+1<V.heap.size:=by omega
  have Z3:=Lib.hid z3
  have NW5:=Lib.hid hnw5
  have NW6:=Lib.hid hnw6
  clear hN5 hN6 hxV k5a k5b k5l hn5' hn6 hn5 hx8 hx6 hx4 hx7 hx5 hx3 hx0 hx1 hx2 hx hzV z3 hnew5 hnew6 hnw5 hnw6 hq hr
  go_region
  all_goals
   go_wp2
   refine bodyPost_ret (v:=.tuple #[.agg #[.bool n5,.slice p5 l5 c5],.agg #[.bool n6,.slice p6 l6 c6],.bool true]) (by simp only[results,Tryz.results83];go_simp) rfl ?_
   have hN5:=HN5.out
   have hN6:=HN6.out
   have hxV:=HXV.out
   have hnw5:=NW5.out
   have hnw6:=NW6.out
   have z3:=Z3.out
   refine⟨n5,p5,l5,c5,n6,p6,l6,c6,rfl,?_,?_,hnw5.mono (by omega),hnw6.mono (by omega),bxx⟩
   ·(repeat (first|assumption|exact NR.drew (by assumption)|refine NR.set ?_ (w0:=w3) (by assumption) _ omm _|refine NR.drew ?_))
   ·(repeat (first|assumption|exact NR.drew (by assumption)|refine NR.set ?_ (w0:=w3) (by assumption) _ omm _|refine NR.drew ?_))
end

set_option maxHeartbeats 4000000
set_option maxRecDepth 100000
section
attribute [local go_sem] Gives givesU
theorem RDiv_neg(a b:Nm)(pa pb:Option Addr)(la ca lb cb:Nat)(w:World)(ha:NR w true pa la ca a)(hb:NR w false pb lb cb b)(ra:a.right=true)(rb:b.right=true)(hlb:0<lb)(dq dr:List Nat)(X Y:Nm)
  (DV:∀W,Ext w W->Calls Tryz.prog 105 #[.slice pa la ca,.slice pb lb cb] W (RetQR W dq dr)) (hs:0<dr.length) (hX:∀o:List Nat,val o=val dq+1->madeP true o=(X,true)) (hY:∀o:List Nat,val o=val b.d-val dr->madeP false o=(Y,true))
  (lq:dq.length<=64) (lr:dr.length<=64) (hle:val dr<=val b.d) (hbl:dr.length<=b.d.length) :
  Calls Tryz.prog 83 #[.agg #[.bool true,.slice pa la ca],.agg #[.bool false,.slice pb lb cb]] w (RetDiv w (X,Y,true)):=by
 have lb64:b.d.length<=64:=(b.right_iff.1 rb).1
 have PL:=Lib.hid (fun p c g W (h:Row W p c dq) (k:Row W (some ⟨g,0,none⟩) 1 [1])=>r01_plus dq [1] p (some ⟨g,0,none⟩) dq.length c 1 1 W h k rfl rfl (by omega) (by simp))
 have MN:=Lib.hid (fun p c W (k:Ext w W) (h:Row W p c dr)=>r01_minus b.d dr pb p lb cb dr.length c W (hb.2.2.ext k) h hb.2.1 rfl (by omega) hbl hle)
 have RA:=Lib.hid (fun w' (hx:Ext w w')=>r01_Right a true pa la ca w' (ha.ext hx))
 have RB:=Lib.hid (fun w' (hx:Ext w w')=>r01_Right b false pb lb cb w' (hb.ext hx))
 rw[ra] at RA
 rw[rb] at RB
 have e0:((lb:Int)==0)=false:=by rw[beq_eq_false_iff_ne];omega
 replace DV:=Lib.hid DV
 clear hlb ra rb
 have MK1:=Lib.hid (fun o p c W (h:Row W p c o) (hv:val o=val dq+val [1])=>by have:=r01_made true o p o.length c W h rfl;rw[hX o (by rw[hv,val_one])] at this;exact this)
 have MK2:=Lib.hid (fun o p c W (h:Row W p c o) (hv:val o=val b.d-val dr)=>by have:=r01_made false o p o.length c W h rfl;rw[hY o hv] at this;exact this)
 clear hX hY lq lr hle hbl lb64
 go_enter Tryz.func83,Tryz.ntmps83
 go_wp2_with fail
 refine (RA.out _ bxx).mono ?_
 rintro e w1 ⟨rfl,hx⟩
 have hx0:Ext w w1:=Ext.step bxx hx
 obtain⟨_,⟨_,_,_⟩,⟨_,_,_⟩,⟨_,_,_⟩,_,_,_⟩:=keepK4 hx w.heap.size
 go_wp2_with fail
 refine (RB.out _ bxx).mono ?_
 rintro e w2 ⟨rfl,hx2⟩
 have hx1:Ext w w2:=Ext.step bxx hx2
 obtain⟨_,⟨_,_,_⟩,⟨_,_,_⟩,⟨_,_,_⟩,_,_,_⟩:=keepK4 hx2 w.heap.size
 go_wp2_with fail
 refine (DV.out _ bxx).mono ?_
 rintro e w3 ⟨p,c,p2,c2,rfl,hq,hr,hx3⟩
 have hx4:Ext w w3:=Ext.step bxx hx3
 obtain⟨hz_w3,⟨_,_,_⟩,⟨_,_,_⟩,⟨_,_,_⟩,_,_,_⟩:=keepK4 hx3 w.heap.size
 obtain⟨m,HM⟩:∃m,Hid (dr.length=m):=⟨_,rfl⟩
 obtain⟨mq,HMQ⟩:∃m,Hid (dq.length=m):=⟨_,rfl⟩
 rw[HM.out] at hs ⊢
 rw[HMQ.out]
 rw[HM.out] at MN
 rw[HMQ.out] at PL
 go_wp2_with fail
 refine (PL.out p c _ _ (hq.ext bxx) (row_one _ 1 _ _ (by decide) rfl)).mono ?_
 rintro e w3b ⟨q1,k1,rfl,hr1,_,hx3b⟩
 have hy1:Ext w3 w3b:=Ext.step bxx hx3b
 obtain⟨_,⟨_,_,_⟩,⟨_,_,_⟩,⟨_,_,_⟩,_,_,_⟩:=keepK4 hy1 w.heap.size
 obtain⟨lq1,LQ1⟩:∃x,Hid ((digs (val dq+val [1])).length=x):=⟨_,rfl⟩
 rw[LQ1.out]
 go_wp2_with fail
 refine (MN.out p2 c2 _ (hx4.trans (hy1.mono hx4.size)) (hr.ext hy1)).mono ?_
 rintro e w4 ⟨q2,k2,rfl,hr2,_,hx4b⟩
 have hx9:Ext w3 w4:=Ext.step hy1 hx4b
 have hx10:Ext w w4:=Ext.step hx4 hx9
 obtain⟨lq2,LQ2⟩:∃x,Hid ((digs (val b.d-val dr)).length=x):=⟨_,rfl⟩
 rw[LQ2.out]
 have R1:=Lib.hid (hr1.ext hx4b)
 have R2:=Lib.hid hr2
 obtain⟨d1,HD1⟩:∃x,Hid (digs (val dq+val [1])=x):=⟨_,rfl⟩
 obtain⟨d2,HD2⟩:∃x,Hid (digs (val b.d-val dr)=x):=⟨_,rfl⟩
 have hv1:val d1=val dq+val [1]:=by rw[<- HD1.out,val_digs]
 have hv2:val d2=val b.d-val dr:=by rw[<- HD2.out,val_digs]
 rw[HD1.out] at R1 LQ1
 rw[HD2.out] at R2 LQ2
 rw[<- LQ1.out,<- LQ2.out]
 clear hr1 hr2 hq hr hx3b hx4b hy1
 obtain⟨_,⟨_,_,_⟩,⟨_,_,_⟩,⟨_,_,_⟩,_,_,_⟩:=keepK4 hx9 w.heap.size
 go_wp2_with fail
 refine (MK1.out d1 _ _ _ R1.out hv1).mono ?_
 rintro e w5 ⟨n5,p5,l5,c5,rfl,hn5,hnew5,hx5⟩
 have hx6:Ext w w5:=Ext.step hx10 hx5
 obtain⟨_,⟨_,_,_⟩,⟨_,_,_⟩,⟨_,_,_⟩,_,_,_⟩:=keepK4 hx5 w.heap.size
 go_wp2_with fail
 refine (MK2.out d2 _ _ _ (R2.out.ext (hx5.alloc hx5.size _)) hv2).mono ?_
 rintro e w6 ⟨n6,p6,l6,c6,rfl,hn6,hnew6,hx7⟩
 have hx8:Ext w w6:=Ext.step bxx hx7
 have k5a:w6.cell? ⟨w5.heap.size,0,none⟩=some (.bool n5):=(hx7.cell (p:=⟨w5.heap.size,0,none⟩) (by simp)).trans (by go_simp)
 have k5b:w6.cell? ⟨w5.heap.size,1,none⟩=some (.slice p5 l5 c5):=(hx7.cell (p:=⟨w5.heap.size,1,none⟩) (by simp)).trans (by go_simp)
 have k5l:w5.heap.size<w6.heap.size:=Nat.lt_of_lt_of_le (by simp) hx7.size
 obtain⟨_,⟨_,_,_⟩,⟨_,_,_⟩,⟨_,_,_⟩,_,_,_⟩:=keepK4 hx7 w.heap.size
 have hn5':NR w6 n5 p5 l5 c5 X:=hn5.ext (Below.trans ((Below.refl _ _).alloc (Nat.le_refl _) _) (hx7.mono (by simp)))
 have hnw5:New w3 p5:=hnew5.mono hx9.size
 have hnw6:New w3 p6:=hnew6.mono (by have:=hx5.size;have:=hx9.size;simp;omega)
 have z3:w.heap.size+4<=w3.heap.size:=hz_w3
 go_upto_region 11 with (fail)
 refine wp_some (fun W=>Ext w W/\(W.cell? ⟨w.heap.size+1+1,0,none⟩=some (.bool false)/\W.cell? ⟨w.heap.size+1+1,1,none⟩=some (.slice none 0 0)/\W.cell? ⟨w.heap.size+1+1+1,0,none⟩=some (.bool false)/\W.cell? ⟨w.heap.size+1+1+1,1,none⟩=some (.slice none 0 0)/\W.cell? ⟨w5.heap.size,0,none⟩=some (.bool n5)/\W.cell? ⟨w5.heap.size,1,none⟩=some (.slice p5 l5 c5)/\W.cell? ⟨w6.heap.size,0,none⟩=some (.bool n6)/\W.cell? ⟨w6.heap.size,1,none⟩=some (.slice p6 l6 c6)/\(∀o,W.frozen? ⟨w.heap.size+1+1,o,none⟩=false)/\(∀o,W.frozen? ⟨w.heap.size+1+1+1,o,none⟩=false) )/\w.heap.size+4<=W.heap.size/\NR W n5 p5 l5 c5 X/\NR W n6 p6 l6 c6 Y) ?_ ?_
 ·exact⟨bxx,⟨by go_simp,by go_simp,by go_simp,by go_simp,by go_simp,by go_simp,by go_simp,by go_simp,by intro o;go_simp,by intro o;go_simp⟩,by simp;omega,hn5'.alloc _,hn6.alloc _⟩
 obtain⟨A5,HA5⟩:∃x,Hid (w5.heap.size=x):=⟨_,rfl⟩
 obtain⟨A6,HA6⟩:∃x,Hid (w6.heap.size=x):=⟨_,rfl⟩
 have hne1:w.heap.size+1+1≠A5:=by have:=HA5.out;have:=hx5.size;have:=hx9.size;omega
 have hne2:w.heap.size+1+1+1≠A5:=by have:=HA5.out;have:=hx5.size;have:=hx9.size;omega
 have hne3:w.heap.size+1+1≠A6:=by have:=HA5.out;have:=HA6.out;omega
 have hne4:w.heap.size+1+1+1≠A6:=by have:=HA5.out;have:=HA6.out;omega
 rw[HA5.out,HA6.out]
 rintro V ⟨hxV,⟨v0,v1,v2,v3,v4,v5,v6,v7,vf1,vf2⟩,hzV,hN5,hN6⟩
 have HN5:=Lib.hid hN5
 have HN6:=Lib.hid hN6
 have HXV:=Lib.hid hxV
 have y2:w.heap.size+1+1<V.heap.size:=by omega
 have y3:w.heap.size+1+1+1<V.heap.size:=by omega
 have Z3:=Lib.hid z3
 have NW5:=Lib.hid hnw5
 have NW6:=Lib.hid hnw6
 clear hN5 hN6 hxV k5a k5b k5l hn5' hn6 hn5 hx8 hx6 hx4 hx7 hx5 hx3 hx0 hx1 hx2 hx hzV z3 hnew5 hnew6 hnw5 hnw6 hx9 hx10
 go_region
 all_goals
  go_wp2
  refine bodyPost_ret (v:=.tuple #[.agg #[.bool n5,.slice p5 l5 c5],.agg #[.bool n6,.slice p6 l6 c6],.bool true]) (by simp only[results,Tryz.results83];go_simp) rfl ?_
  have hN5:=HN5.out
  have hN6:=HN6.out
  have hxV:=HXV.out
  have hnw5:=NW5.out
  have hnw6:=NW6.out
  have z3:=Z3.out
  refine⟨n5,p5,l5,c5,n6,p6,l6,c6,rfl,?_,?_,hnw5.mono (by omega),hnw6.mono (by omega),bxx⟩
  ·(repeat (first|assumption|exact NR.drew (by assumption)|refine NR.set ?_ (w0:=w3) (by assumption) _ omm _|refine NR.drew ?_))
  ·(repeat (first|assumption|exact NR.drew (by assumption)|refine NR.set ?_ (w0:=w3) (by assumption) _ omm _|refine NR.drew ?_))
end

section
attribute [local go_sem] Gives givesU
theorem r01_DivG(a b:Nm)(na nb:Bool)(pa pb:Option Addr)(la ca lb cb:Nat)(w:World)(ha:NR w na pa la ca a)(hb:NR w nb pb lb cb b)
  (DV:a.right=true->b.right=true->0<b.d.length->∀W,Ext w W->Calls Tryz.prog 105 #[.slice pa la ca,.slice pb lb cb] W (RetQR W (digs (val a.d/val b.d)) (digs (val a.d%val b.d)))) :
  Calls Tryz.prog 83 #[.agg #[.bool na,.slice pa la ca],.agg #[.bool nb,.slice pb lb cb]] w (RetDiv w (divP a b)):=by
 cases ra:a.right with
 | false=>exact RDiv_no a b na nb pa pb la ca lb cb w ha hb (.inl ra)
 | true =>
  cases rb:b.right with
  | false=>exact RDiv_no a b na nb pa pb la ca lb cb w ha hb (.inr (.inl rb))
  | true =>
   cases hn:b.neg with
   | true=>exact RDiv_no a b na nb pa pb la ca lb cb w ha hb (.inr (.inr (.inl hn)))
   | false =>
    by_cases h0:b.d.length=0
    ·exact RDiv_no a b na nb pa pb la ca lb cb w ha hb (.inr (.inr (.inr h0)))
    ·have hnb := hb.1
     rw[hn] at hnb
     subst hnb
     have hlb:=hb.2.1
     have hna:=ha.1
     have da:=ha.2.2.dig
     rw[divP_yes ra rb hn (by omega)]
     have D:=DV ra rb (by omega)
     have vq:val (digs (val a.d/val b.d))=val a.d/val b.d:=val_digs _
     have vr:val (digs (val a.d%val b.d))=val a.d%val b.d:=val_digs _
     have hbp:0<val b.d:=tight_pos (b.right_iff.1 rb).2.1 (by omega)
     have hqle:val a.d/val b.d<=val a.d:=Nat.div_le_self _ _
     have hrle:val a.d%val b.d<=val a.d:=Nat.mod_le _ _
     have l64 (n:Nat) (h:n<=val a.d):(digs n).length<=64:=by
      refine (digs_length_le _ _).2 (Nat.lt_of_le_of_lt h ?_)
      exact Nat.lt_of_lt_of_le (val_lt da) (Nat.pow_le_pow_right (by omega) (a.right_iff.1 ra).1)
     by_cases hs:a.neg=true/\val a.d%val b.d≠0
     ·obtain ⟨hneg, hrest⟩ := hs
      rw[hneg] at hna
      subst hna
      have hrb:val a.d%val b.d<val b.d:=Nat.mod_lt _ hbp
      have z:a.z = -(val a.d:Int):=by unfold Nm.z;rw[hneg];rfl
      refine RDiv_neg a b pa pb la ca lb cb w ha hb ra rb (by omega) _ _ _ _ D ?_ ?_ ?_ (l64 _ hqle) (l64 _ hrle) (by rw[vr];omega) (digs_le hb.2.2.dig (b.right_iff.1 rb).2.1 (by omega))
      ·refine List.length_pos_iff.2 (fun h => hrest ?_)
       exact digs_eq_nil.1 h
      ·intro o ho
       rw[vq] at ho
       have:=made_nat da ra (succ_le hbp hrest) ho true
       simp only[if_true] at this
       rw[this,z,((ediv_neg hbp).2 hrest).1]
      ·intro o ho
       rw[vr] at ho
       rw[madeP_fit,ho,fit_small]
       ·simp only [Bool.false_eq_true, if_false]
        rw[z,((ediv_neg hbp).2 hrest).2]
       ·refine small_of_le hb.2.2.dig rb ?_
        simp only[Bool.false_eq_true,if_false]
        omega
     ·refine RDiv_simple a b na pa pb la ca lb cb w ha hb ra rb (by omega) _ _ _ _ D ?_ ?_ ?_
      ·intro h
       rw[hna] at h
       have:val a.d%val b.d=0:=by
        rcases Nat.eq_zero_or_pos (val a.d%val b.d) with g|g
        ·exact g
        ·exact absurd ⟨h,by omega⟩ hs
       rw[this,digs_zero]
      ·rw [made_nat da ra hqle vq na]
       unfold Nm.z
       rw[hna]
       cases h:a.neg with
       | false=>simp only[Bool.false_eq_true,if_false];rw[ediv_pos.1]
       | true =>
        simp only[if_true]
        have:val a.d%val b.d=0:=by
         rcases Nat.eq_zero_or_pos (val a.d%val b.d) with g|g
         ·exact g
         ·exact absurd ⟨h,by omega⟩ hs
        rw[((ediv_neg hbp).1 this).1]
      ·rw [made_nat da ra hrle vr false]
       simp only[Bool.false_eq_true,if_false]
       unfold Nm.z
       cases h:a.neg with
       | false=>simp only[Bool.false_eq_true,if_false];rw[ediv_pos.2]
       | true =>
        simp only[if_true]
        have:val a.d%val b.d=0:=by
         rcases Nat.eq_zero_or_pos (val a.d%val b.d) with g|g
         ·exact g
         ·exact absurd ⟨h,by omega⟩ hs
        rw[((ediv_neg hbp).1 this).2]
end
theorem r01_Div(a b:Nm)(na nb:Bool)(pa pb:Option Addr)(la ca lb cb:Nat)(w:World)(ha:NR w na pa la ca a)(hb:NR w nb pb lb cb b) :
  Calls Tryz.prog 83 #[.agg #[.bool na,.slice pa la ca],.agg #[.bool nb,.slice pb lb cb]] w (RetDiv w (divP a b)) :=
 r01_DivG a b na nb pa pb la ca lb cb w ha hb (fun ra rb h W k =>
  r01_quotient a.d b.d pa pb la ca lb cb W (ha.2.2.ext k) (hb.2.2.ext k) ha.2.1 hb.2.1 (b.right_iff.1 rb).2.1 (Nat.le_trans (a.right_iff.1 ra).1 (by decide)) (Nat.le_trans (b.right_iff.1 rb).1 (by decide)) (tight_pos (b.right_iff.1 rb).2.1 h))
theorem val_even(d:List Nat):val d%2=d[0]?.getD 0%2:=by
 cases d with
 | nil=>rfl
 | cons x t=>rw[val];simp only[List.getElem?_cons_zero,Option.getD_some];omega
theorem gcd_half_left{x y:Nat}(hx:x%2=0)(hy:y%2=1):Nat.gcd (x/2) y=Nat.gcd x y:=by
 have hc:Nat.Coprime 2 y:=by rw[Nat.Coprime,Nat.gcd_rec,hy];rfl
 have:=Nat.Coprime.gcd_mul_left_cancel (x/2) hc
 rw[<- this,show 2*(x/2)=x by omega]
theorem gcd_half_right{x y:Nat}(hx:x%2=1)(hy:y%2=0):Nat.gcd x (y/2)=Nat.gcd x y:=by
 rw[Nat.gcd_comm,gcd_half_left hy hx,Nat.gcd_comm]
theorem gcd_half_both{x y:Nat}(hx:x%2=0)(hy:y%2=0):Nat.gcd x y=2*Nat.gcd (x/2) (y/2):=by
 have:=Nat.gcd_mul_left 2 (x/2) (y/2)
 rw[<- this,show 2*(x/2)=x by omega,show 2*(y/2)=y by omega]
theorem gcd_minus{x y:Nat}(h:y<=x):Nat.gcd (x-y) y=Nat.gcd x y:=Nat.gcd_sub_self_left h
def TwoInv(A B x y t:Nat):Prop:=2 ^ t*Nat.gcd x y=Nat.gcd A B/\0<x/\0<y/\2 ^ t*x<=A/\2 ^ t*y<=B
theorem two_start{A B:Nat}(ha:0<A)(hb:0<B):TwoInv A B A B 0:=by simp[TwoInv,ha,hb]
theorem two_step{A B x y t:Nat}(h:TwoInv A B x y t)(hx:x%2=0)(hy:y%2=0):TwoInv A B (x/2) (y/2) (t+1):=by
 obtain⟨h1,h2,h3,h4,h5⟩:=h
 have e (z:Nat) (hz:z%2=0):2 ^ (t+1)*(z/2)=2 ^ t*z:=by rw[Nat.pow_succ,Nat.mul_assoc,show 2*(z/2)=z by omega]
 refine⟨?_,by omega,by omega,by rw[e x hx];exact h4,by rw[e y hy];exact h5⟩
 rw[<- h1,gcd_half_both hx hy,Nat.pow_succ,Nat.mul_assoc]
theorem pow_eG(k:Nat){E:Nat}(h:32*k=E):(4294967296:Nat) ^ k=2 ^ E:=by
 subst h
 rw[Nat.pow_mul]
theorem two_small{A B x y t:Nat}(h:TwoInv A B x y t)(hA:A<4294967296 ^ 64):t<2048:=by
 obtain⟨_,h2,_,h4,_⟩:=h
 refine Nat.lt_of_not_le fun ht=>?_
 obtain⟨E,hE⟩:∃E,32*64=E:=⟨_,rfl⟩
 have e:(4294967296:Nat) ^ 64=2 ^ E:=pow_eG 64 hE
 rw[e] at hA
 have h5:2 ^ E<=2 ^ t:=Nat.pow_le_pow_right (by decide) (by omega)
 have h6:2 ^ t<=2 ^ t*x:=Nat.le_mul_of_pos_right _ h2
 exact Nat.lt_irrefl _ (Nat.lt_of_le_of_lt (Nat.le_trans h5 (Nat.le_trans h6 h4)) hA)
def GInv(g x y:Nat):Prop:=Nat.gcd x y=g/\0<y/\(x%2=1\/y%2=1)
theorem g_left{g x y:Nat}(h:GInv g x y)(hx:x%2=0):GInv g (x/2) y:=by
 obtain⟨h1,h2,h3⟩:=h
 have hy:y%2=1:=by omega
 exact⟨by rw[gcd_half_left hx hy,h1],h2,.inr hy⟩
theorem g_right{g x y:Nat}(h:GInv g x y)(hx:x%2=1)(hy:y%2=0):GInv g x (y/2):=by
 obtain⟨h1,h2,h3⟩:=h
 exact⟨by rw[gcd_half_right hx hy,h1],by omega,.inl hx⟩
theorem g_minus{g x y:Nat}(h:GInv g x y)(hx:x%2=1)(hy:y%2=1)(hle:y<=x):GInv g (x-y) y:=by
 obtain⟨h1,h2,h3⟩:=h
 exact⟨by rw[gcd_minus hle,h1],h2,.inr hy⟩
theorem g_swap{g x y:Nat}(h:GInv g x y)(hx:0<x):GInv g y x:=by
 obtain⟨h1,h2,h3⟩:=h
 exact⟨by rw[Nat.gcd_comm,h1],hx,h3.symm⟩
theorem g_end{g y:Nat}(h:GInv g 0 y):y=g:=by rw[<- h.1,Nat.gcd_zero_left]
end Go.Proofs.YtcfpcafnjgpfdaaGreat
