import Derived.Test.YtcfpcafnjgpfdaaGreatK18
import Derived.Test.YtcfpcafnjgpfdaaGreatShelf
import Derived.BigRegion
import Derived.Lib.ItoaNum
set_option linter.unusedVariables false
set_option linter.unusedSimpArgs false

namespace Go.Proofs.YtcfpcafnjgpfdaaGreat
open Go.RowKit

set_option maxHeartbeats 8000000
set_option maxRecDepth 100000
section
attribute [local go_sem] Gives givesU
theorem lead{x:Nat}(h0:0<x)(hx:x<4294967296):∃i:Nat,i<32/\(32-(Lib.bitLen x:Int))=(i:Int)/\(x+1)*2 ^ i<=4294967296:=by
 have hl:=Lib.bitLen_le x 32 (by omega) hx
 obtain⟨b1,_,b3⟩:=Lib.bitLenAux_bounds 64 x (by omega) (by omega)
 change 1<=Lib.bitLen x at b1
 change x<2 ^ Lib.bitLen x at b3
 refine⟨32-Lib.bitLen x,by omega,by omega,?_⟩
 have h1:=Nat.mul_le_mul_right (2 ^ (32-Lib.bitLen x)) (Nat.succ_le_of_lt b3)
 rw[<- Nat.pow_add,show Lib.bitLen x+(32-Lib.bitLen x)=32 by omega] at h1
 exact h1
theorem lead_val{b:List Nat}{n x i:Nat}(hl:b.length=n+1)(db:Dig b)(hx:b[n]?.getD 0=x)(h:(x+1)*2 ^ i<=4294967296):2 ^ i*val b<4294967296 ^ (n+1):=by
 have h1:=val_pos_of hl hx
 have h2:=val_lt (db.take n)
 rw[List.length_take,Nat.min_eq_left (by omega)] at h2
 have hs:0<2 ^ i:=Nat.pow_pos (by omega)
 rw[Nat.pow_succ]
 have h3:val b<4294967296 ^ n*(x+1):=by
  have e:4294967296 ^ n*(x+1)=4294967296 ^ n*x+4294967296 ^ n:=by grind
  omega
 have h4:2 ^ i*val b<2 ^ i*(4294967296 ^ n*(x+1)):=Nat.mul_lt_mul_of_pos_left h3 hs
 have h5:4294967296 ^ n*((x+1)*2 ^ i)<=4294967296 ^ n*4294967296:=Nat.mul_le_mul_left _ h
 have e:2 ^ i*(4294967296 ^ n*(x+1))=4294967296 ^ n*((x+1)*2 ^ i):=by grind
 omega
theorem top_pos{v:List Nat}{n:Nat}(hl:v.length=n+1)(dv:Dig v)(h:4294967296 ^ n<=val v):0<v[n]?.getD 0:=by
 have h1:=val_pos_of hl rfl
 have h2:=val_lt (dv.take n)
 rw[List.length_take,Nat.min_eq_left (by omega)] at h2
 rcases Nat.eq_zero_or_pos (v[n]?.getD 0) with g|g
 ·rw[g,Nat.mul_zero] at h1;omega
 ·exact g
theorem tight_ge{b:List Nat}{n:Nat}(hl:b.length=n+1)(tb:Tight b):4294967296 ^ n<=val b:=by
 rcases List.eq_nil_or_concat b with rfl|⟨c,x,rfl⟩
 ·simp at hl
 ·have hx : x ≠ 0 := by have := tb (by simp); simpa using this
  have hc:c.length=n:=by simpa using hl
  rw[List.concat_eq_append,val_append,hc,val_one]
  have:=Nat.mul_le_mul_left (4294967296 ^ n) (show 1<=x by omega)
  omega
theorem own_part{w:World}{B e g N c cap:Nat}{pre part post:List Nat}(h:w.ownsRow B e 1 (.slice (some ⟨g,0,none⟩) N c) N (enc (pre++(part++post))))(dp:Dig part)(hc:part.length<=cap)(hm:cap<=9223372036854775807) :
  Row w (some ⟨g,pre.length,none⟩) cap part:=by
 have hl:=own_len h
 refine⟨hc,hm,dp,fun h0=>⟨g,pre.length,rfl,(h.lt g rfl).2,fun i hi=>?_⟩⟩
 simp only[List.length_append] at hl
 rw[h.cellAt _ (by omega),enc_get _ _ (by simp;omega),List.getElem?_append_right (by omega),Nat.add_sub_cancel_left,List.getElem?_append_left hi]
theorem ownsRow_base{w:World}{base base' e size n:Nat}{v:Value}{xs:List Value}(h:w.ownsRow base e size v n xs)(hb:base'<=base):w.ownsRow base' e size v n xs:=by
 refine⟨h.1,?_⟩
 rcases h.2 with g|⟨g,cap,cur,h1,h2,h3⟩
 ·exact .inl g
 ·exact .inr ⟨g,cap,cur,h1,Nat.le_trans hb h2,h3⟩
theorem split3(u:List Nat)(k n:Nat)(h:k+n<=u.length):∃pre part post:List Nat,u=pre++(part++post)/\pre.length=k/\part.length=n :=
 ⟨u.take k,(u.drop k).take n,(u.drop k).drop n,by rw[List.take_append_drop,List.take_append_drop],by rw[List.length_take,Nat.min_eq_left (by omega)],by rw[List.length_take,List.length_drop,Nat.min_eq_left (by omega)]⟩
def IsSh(base N A:Nat)(nt:Nat->Prop)(W:World)(v:Value)(w':World):Prop :=
 ∃t:Nat×List Nat,v=.slice (some ⟨t.1,0,none⟩) N N/\Below W.heap.size W w'/\t.2.length=N/\Dig t.2/\val t.2=A/\nt t.1/\w'.ownsRow base 113 1 (.slice (some ⟨t.1,0,none⟩) N N) N (enc t.2)
theorem F_shift{P:Program}{ops:Array Oper}{S:World->Prop}{Q:Act->World->Prop}{o:Oper}{l:List Oper}{a:Act}{own:List Nat}{F:World->Prop}(base N A:Nat)(nt:Nat->Prop)(hk:fkind o=2)(hw:Region.wanted o (yielded ops a.tmps)=true)
  (hg:∀w,F w->Gives P o a w (IsSh base N A nt w))
  (h:∀g d,List.length d=N->Dig d->val d=A->nt g->WpF P ops S Q l (a.put o.dst (.slice (some ⟨g,0,none⟩) N N)) own (fun w=>F w/\w.ownsRow base 113 1 (.slice (some ⟨g,0,none⟩) N N) N (enc d))):WpF P ops S Q (o::l) a own F:=by
 refine F_callE (I:=Nat×List Nat) (fun t=>.slice (some ⟨t.1,0,none⟩) N N) (fun t W=>(t.2.length=N/\Dig t.2/\val t.2=A/\nt t.1)/\W.ownsRow base 113 1 (.slice (some ⟨t.1,0,none⟩) N N) N (enc t.2)) (fun t W W' h hb=>⟨h.1,ownsRow_extT h.2 hb⟩) hk hw (fun w hf=>?_) ?_
 ·refine (hg w hf).imp ?_
  rintro v w' ⟨t,h1,h2,h3,h4,h5,h6,h7⟩
  exact⟨t,h1,h2,⟨h3,h4,h5,h6⟩,h7⟩
 ·rintro ⟨g, d⟩ ⟨w1, hf, hp, hr⟩
  have e:(fun w=>F w/\(List.length d=N/\Dig d/\val d=A/\nt g)/\w.ownsRow base 113 1 (.slice (some ⟨g,0,none⟩) N N) N (enc d))=(fun w=>F w/\w.ownsRow base 113 1 (.slice (some ⟨g,0,none⟩) N N) N (enc d)):=by
   funext w;exact propext ⟨fun ⟨a,_,b⟩=>⟨a,b⟩,fun ⟨a,b⟩=>⟨a,hp,b⟩⟩
  have:=h g d hp.1 hp.2.1 hp.2.2.1 hp.2.2.2
  rw[<- e] at this
  exact this
theorem num_divide_long(a b:List Nat)(pa pb:Option Addr)(la ca lb cb n0:Nat)(w:World)(ha:Row w pa ca a)(hb:Row w pb cb b)(hla:la=a.length)(hlb:lb=b.length)(ta:Tight a)(tb:Tight b)(h64:a.length<=900)
  (hn:b.length=n0+2) (hge:val b<=val a):Calls Tryz.prog 107 #[.slice pa la ca,.slice pb lb cb] w (RetQR w (digs (val a/val b)) (digs (val a%val b))):=by
 have hc:decide (cmpL a b<0)=false:=by
  rw[decide_eq_false_iff_not,cmpL_neg ha.dig hb.dig ta tb]
  omega
 have CP:=Lib.hid (fun w' (hx:Ext w w')=>num_compare a b pa pb la ca lb cb w' (ha.ext hx) (hb.ext hx) hla hlb)
 have hnm:b.length<=a.length:=tight_len ha.dig tb hge
 have hx0:=top_pos (n:=n0+1) hn hb.dig (tight_ge hn tb)
 have hxd:=hb.dig.getD (n0+1)
 rw[List.getD_eq_getElem?_getD] at hxd
 obtain⟨x,X⟩:∃x,Hid (b[n0+1]?.getD 0=x):=⟨_,rfl⟩
 rw[X.out] at hx0 hxd
 obtain⟨i,hi,hie,hix⟩:=lead hx0 hxd
 have LZ:=Lib.hid (fun W=>(Tryz.bits_LeadingZeros32 (x:Int) W (by omega) (by omega)).mono (fun e w' h=>(show e=.returned (.int .i64 (i:Int))/\w'=W from⟨by rw[h.1,Int.toNat_natCast,hie],h.2⟩)))
 have SA:=Lib.hid (fun W (hx:Ext w W)=>num_shifted a pa la ca i W (ha.ext hx) hla hi (by omega))
 have SB:=Lib.hid (fun W (hx:Ext w W)=>num_shifted b pb lb cb i W (hb.ext hx) hlb hi (by omega))
 have hVn:=lead_val (n:=n0+1) hn hb.dig X.out hix
 have hVg:4294967296 ^ (n0+1)<=2 ^ i*val b:=Nat.le_trans (tight_ge (n:=n0+1) hn tb) (Nat.le_mul_of_pos_left _ (Nat.pow_pos (by omega)))
 have hse:2 ^ i*2 ^ (32-i)=4294967296:=by rw[<- Nat.pow_add,show i+(32-i)=32 by omega]
 have hs0:0<2 ^ i:=Nat.pow_pos (by omega)
 have hAQ:2 ^ i*val a/(2 ^ i*val b)=val a/val b:=Nat.mul_div_mul_left _ _ hs0
 have hAR:2 ^ i*val a%(2 ^ i*val b)=2 ^ i*(val a%val b):=Nat.mul_mod_mul_left _ _ _
 have hAlt:2 ^ i*val a<4294967296 ^ (a.length-b.length+1)*(2 ^ i*val b):=by
  have h1:=val_lt ha.dig
  have h2:4294967296 ^ a.length<=4294967296 ^ (a.length-b.length+1)*val b:=by
   have h3:=Nat.mul_le_mul_left (4294967296 ^ (a.length-b.length+1)) (tight_ge (n:=n0+1) hn tb)
   rw[<- Nat.pow_add,show a.length-b.length+1+(n0+1)=a.length by omega] at h3
   exact h3
  have e:4294967296 ^ (a.length-b.length+1)*(2 ^ i*val b)=2 ^ i*(4294967296 ^ (a.length-b.length+1)*val b):=by grind
  rw[e]
  exact Nat.mul_lt_mul_of_pos_left (Nat.lt_of_lt_of_le h1 h2) hs0
 obtain⟨bb,ob,rfl,hbb,hcb⟩:=hb.at (by omega)
 have hc0:=hcb (n0+1) (by omega)
 rw[X.out] at hc0
 have hcb1:=hb.le
 have hcb2:=hb.max
 have hla1:=ha.le
 have hma1:=ha.max
 obtain⟨iA,hiA⟩:∃A,Hid (2 ^ i*val a=A):=⟨_,rfl⟩
 obtain⟨V,HV⟩:∃V,Hid (2 ^ i*val b=V):=⟨_,rfl⟩
 obtain⟨m,HM⟩:∃m,Hid (a.length=m):=⟨_,rfl⟩
 obtain⟨M,HMM⟩:∃M,Hid (m-(n0+2)+1=M):=⟨_,rfl⟩
 subst hla hlb
 rw[hiA.out,HM.out] at SA
 rw[HV.out,hn] at SB
 rw[hiA.out,HV.out] at hAQ hAR hAlt
 rw[HV.out] at hVn hVg
 rw[HM.out,hn,HMM.out] at hAlt
 rw[HM.out] at h64 hnm hla1
 rw[hn] at hnm hcb1
 rw[HM.out,hn] at CP ⊢
 have hMm:M+n0+1=m:=by have:=HMM.out;omega
 obtain⟨ii,hii,hz0,hz1,hz2⟩:=info_parts info32
 have hn2:((n0:Int)+2==1)=false:=by rw[beq_eq_false_iff_ne];omega
 have AQ:=Lib.hid hAQ
 have AR:=Lib.hid hAR
 have ALT:=Lib.hid hAlt
 clear hAQ hAR hAlt hcb ta tb hge hix hie ha hb
 go_enter Tryz.func107,Tryz.ntmps107
 go_wp2_with fail
 refine (CP.out _ bxx).mono ?_
 rintro e w1 ⟨rfl,hx1⟩
 have hc1:w1.cell? ⟨bb,ob+(n0+1),none⟩=some (.int .u32 (x:Int)):=(hx1.cell (p:=⟨bb,ob+(n0+1),none⟩) hbb).trans hc0
 go_wp2_with fail
 refine (LZ.out _).mono ?_
 rintro e w2 ⟨rfl,rfl⟩
 have hs1:=hx1.size
 go_upto_region 8 with (fail)
 refine wp_FSc (fun W=>W.cell? ⟨bb,ob+(n0+1),none⟩=some (.int .u32 (x:Int))) ?_
 repeat (first|refine F_s ?_|refine F_r ?_)
 refine F_shift w2.heap.size (m+1) iA (fun _=>True) (by rfl) (by rfl) (by intro W hW;(try dsimp only at hW);have hwW:w2.heap.size<=W.heap.size:=hW.1.size;go_simp;refine (SA.out W (Ext.step hx1 hW.1)).mono ?_;rintro e w' ⟨o,h1,h2,h3,rfl,h5,h6⟩;exact⟨_,rfl,(W.heap.size,o),rfl,h6,h1,h2,h3,trivial,ownsRow_base h5 hwW⟩) ?_
 intro gu U hU1 hU2 hU3 _
 refine F_put ?_
 repeat (first|refine F_s ?_|refine F_r ?_)
 refine F_shift w2.heap.size (n0+2+1) V (fun g=>g≠gu) (by rfl) (by rfl) (by intro W hW;(try dsimp only at hW);have hwW:w2.heap.size<=W.heap.size:=hW.1.1.size;have hlt:=(World.ownsRow.lt hW.2 gu rfl).2;go_simp;refine (SB.out W (Ext.step hx1 hW.1.1)).mono ?_;rintro e w' ⟨o,h1,h2,h3,rfl,h5,h6⟩;exact⟨_,rfl,(W.heap.size,o),rfl,h6,h1,h2,h3,Nat.ne_of_gt hlt,ownsRow_base h5 hwW⟩) ?_
 intro gv V0 hV1 hV2 hV3 hV4
 refine F_put ?_
 repeat (first|refine F_s ?_|refine F_r ?_)
 refine F_run (v:=.slice (some ⟨gv,0,none⟩) (n0+2) (n0+2+1)) (by rfl) ?_ ?_
 ·intro W hW
  (try dsimp only at hW)
  go_simp
  rw[if_pos ⟨by omega,by omega⟩,show ((n0:Int)+2).toNat=n0+2 by omega]
 refine F_put ?_
 repeat (first|refine F_s ?_|refine F_r ?_)
 rintro w3 ⟨⟨⟨hx3,_⟩,hownU⟩,hownV⟩
 have hxw3:Ext w w3:=Ext.step hx1 hx3
 have hvd:Dig (V0.take (n0+2)):=hV2.take _
 have hvl:(V0.take (n0+2)).length=n0+2:=by rw[List.length_take,Nat.min_eq_left (by omega)]
 have hvv:val (V0.take (n0+2))=V:=by
  have h1:=val_pos_of (n:=n0+2) hV1 rfl
  rw[hV3] at h1
  rcases Nat.eq_zero_or_pos (V0[n0+2]?.getD 0) with g|g
  ·rw[g,Nat.mul_zero] at h1;exact h1.symm
  ·have h2 := Nat.mul_le_mul_left (4294967296 ^ (n0 + 2)) g
   have h3:V<4294967296 ^ (n0+2):=hVn
   omega
 obtain⟨pv',cv',hvs,hvrow0,_⟩:=row_of_owns hownV hV2
 have hvrow:Row w3 (some ⟨gv,0,none⟩) (n0+2+1) (V0.take (n0+2)):=by
  injection hvs with e1 e2 e3
  rw[<- e1,<- e3] at hvrow0
  exact hvrow0.take _ (by omega)
 have hgu:gu<w3.heap.size:=(World.ownsRow.lt hownU gu rfl).2
 have hgu2:w2.heap.size<=gu:=(World.ownsRow.lt hownU gu rfl).1
 have hVpos:0<V:=Nat.lt_of_lt_of_le (Nat.pow_pos (by omega)) hVg
 have hvtop:=top_pos (n:=n0+1) (v:=V0.take (n0+2)) hvl hvd (by rw[hvv];exact hVg)
 obtain⟨v,Hv⟩:∃v,Hid (V0.take (n0+2)=v):=⟨_,rfl⟩
 rw[Hv.out] at hvd hvl hvv hvrow hvtop
 have VROW:=Lib.hid hvrow
 have OWNU:=Lib.hid hownU
 have HX3:=Lib.hid hx3
 clear hvs hvrow0 hownV hownU hvrow hx3 hc1 hc0
 have eM:(m:Int)-((n0:Int)+2)+1=(M:Int):=by omega
 have hM1:M<=900:=by omega
 go_wp2_with (at_make;refine wpList_make_full _ rfl _ _ 30 rfl w3.heap.size 113 ii (.int .u32 0) 1 Tryz.underlying30 hii hz0 hz1 _ _ _ _ M rfl rfl (by omega) (by omega) (by rw[hz2];omega) (by unfold maxLen;omega) (Nat.le_refl _) ?_)
 all_goals
  intro w4 hown hgr
  rw[show (madeCells #[Value.int IntKind.u32 0] M).toList=enc (List.replicate M 0++[]) from by rw[enc,List.append_nil,List.map_replicate];exact toList_madeCells_one _ _] at hown
  have hx4:Ext w3 w4:=⟨hgr.os,hgr.tape,hgr.output,hgr.size,fun k hk=>hgr.block k hk (by simp)⟩
  have hownU4:=ownsRow_extT OWNU.out hx4
  clear hgr
  go_wp2_with fail
  have hv3:gv<w3.heap.size:=by
   obtain⟨b',o',hp',hlt',_⟩:=VROW.out.at (by omega)
   cases hp'
   exact hlt'
  go_loopw [12] (fun ks wr=>∃(k:Nat) (u qs:List Nat),ks=.int .i64 ((k:Int)-1)/\qs.length+k=M/\u.length=m+1/\LongInv iA V k u qs/\wr.ownsRow w2.heap.size 113 1 (.slice (some ⟨gu,0,none⟩) (m+1) (m+1)) (m+1) (enc u)/\wr.ownsRow w3.heap.size 113 1 (.slice (some ⟨w3.heap.size,0,none⟩) M M) M (enc (List.replicate k 0++qs))/\Row wr (some ⟨gv,0,none⟩) (n0+2+1) v/\Below w2.heap.size w2 wr) (fun ks _=>(intOf ks+1).toNat)
  case atStart=>exact⟨M,U,[],rfl,by simp,hU1,⟨hU2,Dig.nil,by rw[hU3];simp[val],by rw[hU3];exact ALT.out⟩,hownU4,hown,VROW.out.ext hx4,HX3.out.trans (hx4.mono HX3.out.size)⟩
  case round =>
   clear hown hownU4 hx4 hU1 hU2 hU3
   obtain⟨k,u,qs,rfl,hkM,hul,hinv,hownU,hownQ,hvr,hx⟩:=hrel
   cases k with
   | zero =>
    obtain⟨L1,L2⟩:=long_end hVpos hinv
    rw[AQ.out] at L1
    rw[AR.out] at L2
    have HQ:=Lib.hid L1
    have DQ:=Lib.hid hinv.dq
    have DU:=Lib.hid hinv.du
    have hult:val u<4294967296 ^ (n0+2):=by
     have h1:=hinv.lt
     rw[Nat.pow_zero,Nat.one_mul] at h1
     exact Nat.lt_trans h1 hVn
    rw[List.replicate_zero,List.nil_append] at hownQ
    have hql:qs.length=M:=by omega
    have e:(((0:Nat):Int)-1) = -1:=by omega
    rw[e]
    clear e
    have S0:=Lib.hid (shr_start hse u (by omega))
    have SE:=Lib.hid (fun o (h:ShrInv (2 ^ i) u o) (hl:o.length=n0+2)=>shr_end h hs0 hl hult DU.out (by omega) L2)
    have hwr2:w2.heap.size<=wr.heap.size:=hx.size
    have HOU:=Lib.hid hownU
    have HOQ:=Lib.hid hownQ
    have hgr1:=(World.ownsRow.lt hownU gu rfl).2
    clear hinv L1 L2 hownU hownQ hvr hult
    go_wp2_with (at_make;refine wpList_make_full _ rfl _ _ 30 rfl wr.heap.size 113 ii (.int .u32 0) 1 Tryz.underlying30 hii hz0 hz1 _ _ _ _ (n0+2) rfl rfl (by omega) (by omega) (by rw[hz2];omega) (by unfold maxLen;omega) (Nat.le_refl _) ?_)
    all_goals
     intro w5 hownR hgr
     have eMk:(madeCells #[Value.int IntKind.u32 0] (n0+2)).toList=enc ([]++List.replicate (n0+2) 0):=by
      rw[enc,List.nil_append,List.map_replicate]
      exact toList_madeCells_one _ _
     rw[eMk] at hownR
     clear eMk
     have hx5:Ext wr w5:=⟨hgr.os,hgr.tape,hgr.output,hgr.size,fun k hk=>hgr.block k hk (by simp)⟩
     have hownU5:=ownsRow_extT HOU.out hx5
     have hownQ5:=ownsRow_extT HOQ.out hx5
     clear hgr
     have hgrR:=(World.ownsRow.lt hownR wr.heap.size rfl).2
     have hw3r:w3.heap.size<wr.heap.size:=(World.ownsRow.lt HOQ.out w3.heap.size rfl).2
     have hx55:=hx.trans (hx5.mono hwr2)
     obtain⟨gr,GR⟩:∃gr,Hid (wr.heap.size=gr):=⟨_,rfl⟩
     rw[GR.out] at hownR hgr1 hw3r hwr2 ⊢
     go_wp2_with fail
     go_loopw [83] (fun ks W=>∃(o:List Nat),o.length<=n0+2/\ks=.int .i64 (o.length:Int)/\ShrInv (2 ^ i) u o/\W.ownsRow w2.heap.size 113 1 (.slice (some ⟨gu,0,none⟩) (m+1) (m+1)) (m+1) (enc u)/\W.ownsRow w3.heap.size 113 1 (.slice (some ⟨w3.heap.size,0,none⟩) M M) M (enc qs)/\W.ownsRow gr 113 1 (.slice (some ⟨gr,0,none⟩) (n0+2) (n0+2)) (n0+2) (enc (o++List.replicate (n0+2-o.length) 0))/\Below w2.heap.size w2 W) (fun ks _=>n0+2-(intOf ks).toNat)
     case atStart=>exact⟨[],by simp,rfl,S0.out,hownU5,hownQ5,hownR,hx55⟩
     case round =>
      clear hownU5 hownQ5 hownR hx5 hx55
      obtain⟨o,ho,rfl,hsh,hownU,hownQ,hownR,hx5⟩:=hrel
      by_cases hlt:o.length<n0+2
      ·have d0 := DU.out.getD o.length
       have d1:=DU.out.getD (o.length+1)
       rw[List.getD_eq_getElem?_getD] at d0 d1
       have k0:=own_cell hownU o.length _ (by omega) rfl
       have k1:=own_cell hownU (o.length+1) _ (by omega) rfl
       obtain⟨x0,X0⟩:∃x,Hid (u[o.length]?.getD 0=x):=⟨_,rfl⟩
       obtain⟨x1,X1⟩:∃x,Hid (u[o.length+1]?.getD 0=x):=⟨_,rfl⟩
       rw[X0.out] at k0 d0
       rw[X1.out] at k1 d1
       have STEP:=shr_step hse hsh X0.out X1.out d0
       have OR:=or_u64 x1 x0 d1 d0
       obtain⟨tt,TT⟩:∃x,Hid (x1*4294967296+x0=x):=⟨_,rfl⟩
       rw[TT.out] at STEP OR
       have htt:tt<18446744073709551616:=by have:=TT.out;omega
       have hp:(2:Int) ^ i=((2 ^ i:Nat):Int):=(Int.natCast_pow 2 i).symm
       have DV:(tt:Int)/2 ^ i%4294967296=((tt/2 ^ i%4294967296:Nat):Int):=by rw[hp];rfl
       obtain⟨y,Y⟩:∃x,Hid (tt/2 ^ i%4294967296=x):=⟨_,rfl⟩
       rw[Y.out] at DV STEP
       clear hp
       rw[replicate_pred _ (show 0<n0+2-o.length by omega)] at hownR
       have hcw:=own_at (pre:=[]) (o:=o) (i:=o.length) hownR (by simp)
       have hfw:=World.ownsRow.frozenAt hownR o.length
       have hownR2:(wr.drew.setCell ⟨gr,o.length,none⟩ (.int .u32 (y:Int))).ownsRow gr 113 1 (.slice (some ⟨gr,0,none⟩) (n0+2) (n0+2)) (n0+2) (enc ([]++((o++[y])++List.replicate (n0+2-o.length-1) 0))):=own_put (w:=wr.drew) (pre:=[]) (o:=o) (i:=o.length) hownR (by simp) y
       have hs7:=grownBy_setCell wr.drew ⟨gr,o.length,none⟩ (.int .u32 (y:Int))
       have hownU2:=World.ownsRow.kept (w:=wr.drew) hownU hs7 (.inr (by simp[Value.ownBlock];omega))
       have hownQ2:=World.ownsRow.kept (w:=wr.drew) hownQ hs7 (.inr (by simp[Value.ownBlock];omega))
       have hx8:Below w2.heap.size w2 (wr.drew.setCell ⟨gr,o.length,none⟩ (.int .u32 (y:Int))):=(Below.drew hx5).setCell (by show w2.heap.size<=gr;omega) _
       have hgl:gr<wr.heap.size:=(World.ownsRow.lt hownR gr rfl).2
       have A1:=Lib.hid hownU2
       have A2:=Lib.hid hownQ2
       have A3:=Lib.hid hownR2
       have A4:=Lib.hid hx8
       have A5:=Lib.hid STEP
       clear hownU hownQ hownR hownU2 hownQ2 hownR2 hx5 hx8 hs7 STEP hsh
       have hI1:(0:Int)<=(o.length:Int)+1:=by omega
       have hI2:(o.length:Int)+1<(m:Int)+1:=by omega
       have hI3:(o.length:Int)<(m:Int):=by omega
       have hI4:(o.length:Int)<(m:Int)+1:=by omega
       have hI5:(o.length:Int)<(n0:Int)+2:=by omega
       have hI6:IntKind.i64.wrap ((o.length:Int)+1)=(o.length:Int)+1:=IntWalk.i64_in _ (by omega)
       have hI7:((o.length:Int)+1).toNat=o.length+1:=by omega
       have hI8:(0:Int)<=(o.length:Int):=by omega
       go_upto_region 19 with (fail)
       go_still_tail 19,(by kernel_rfl)
       go_wp2
       refine⟨⟨o++[y],by simp;omega,by simp,A5.out,A1.out,A2.out,?_,A4.out⟩,by simp[intOf];omega⟩
       rw[List.length_append,List.length_singleton,Nat.sub_add_eq]
       exact A3.out
      ·have hol : o.length = n0 + 2 := by omega
       have hvo:=SE.out o hsh hol
       rw[hol,Nat.sub_self,List.replicate_zero,List.append_nil] at hownR
       obtain⟨pq,cq,hvq,hrowQ,_⟩:=row_of_owns (d:=qs) hownQ DQ.out
       obtain⟨pr,cr,hvr,hrowR,_⟩:=row_of_owns (d:=o) hownR hsh.1
       injection hvq with e1 e2 e3
       injection hvr with f1 f2 f3
       subst e1 f1
       rw[<- e3] at hrowQ
       rw[<- f3] at hrowR
       have TQ:=Lib.hid (num_trim qs _ _ _ _ hrowQ hql.symm)
       have hxw:Ext w wr:=(Ext.step hx1 (Below.refl _ _)).trans (hx5.mono hx1.size)
       have TR:=Lib.hid (fun W (hx:Ext wr W)=>num_trim o _ _ _ W (hrowR.ext hx) hol.symm)
       have EQ:=Lib.hid (show trim qs=digs (val a/val b) by unfold trim;rw[HQ.out])
       have ER:=Lib.hid (show trim o=digs (val a%val b) by unfold trim;rw[hvo])
       rw[EQ.out] at TQ
       rw[ER.out] at TR
       clear hownU hownQ hownR hsh hvo e2 e3 f2 f3 hrowQ hrowR
       go_wp2_with fail
       refine TQ.out.mono ?_
       rintro e w7 ⟨rfl,hr7,hx7⟩
       have HR7:=Lib.hid hr7
       clear hr7
       go_wp2_with fail
       refine (TR.out _ hx7).mono ?_
       rintro e w8 ⟨rfl,hr8,hx8⟩
       have hx9:Ext w w8:=Ext.step (Ext.step hxw hx7) hx8
       have HR8:=Lib.hid hr8
       have HR9:=Lib.hid (HR7.out.ext hx8)
       clear hr8 hx7 hx8 hx5
       go_wp2
       go_ret2
       exact⟨_,_,_,_,rfl,HR9.out,HR8.out,hx9⟩
   | succ k =>
    have e:(((k+1:Nat):Int)-1)=(k:Int):=by omega
    rw[e]
    clear e
    obtain⟨pre,part,post,rfl,hpre,hpart⟩:=split3 u k (n0+2+1) (by omega)
    obtain⟨hpost,hplt⟩:=long_part hpre hpart hVn hinv
    have dpart:Dig part:=fun x hx=>hinv.du x (List.mem_append_right _ (List.mem_append_left _ hx))
    have PR:=own_part (cap:=m+1-k) hownU dpart (by omega) (by omega)
    rw[hpre] at PR
    have GS:=Lib.hid (num_guess part v _ _ _ _ n0 wr PR hvr hpart hvl (by omega) hvtop (by rw[hvv];exact hplt))
    have INV:=Lib.hid hinv
    have HOU:=Lib.hid hownU
    have HOQ:=Lib.hid hownQ
    have HVR:=Lib.hid hvr
    clear hinv hownU hownQ hvr PR
    have hw4:w2.heap.size<=wr.heap.size:=hx.size
    go_wp2_with fail
    rw[show k+(n0+2)+1-k=n0+3 by omega]
    refine GS.out.mono ?_
    rintro e w5 ⟨q,rfl,hq1,hq2,hq3,hx5⟩
    have RD:=Lib.hid (num_reduce pre part post v gu k (m+1) (n0+2) (m+1-k) (n0+2+1) w2.heap.size q (some ⟨gv,0,none⟩) w5 (ownsRow_extT HOU.out hx5) hpre hpart hvl (HVR.out.ext hx5) (fun x hx=>by cases hx;exact hV4) dpart (by omega) (by omega) (by omega) (by omega) (by rw[hvv];exact hVpos) hq1 hq2 hq3)
    have hownQ5:=ownsRow_extT HOQ.out hx5
    have hvr5:=HVR.out.ext hx5
    have hx6:Below w2.heap.size w2 w5:=hx.trans (hx5.mono hw4)
    have hw5:=hx5.size
    clear hx5 hq1 hq2 hq3
    go_wp2_with fail
    refine RD.out.mono ?_
    rintro e w6 ⟨part',hl',hd',hv',rfl,hownU6,hg6⟩
    rw[hvv] at hv' ⊢
    have hownQ6:=World.ownsRow.kept hownQ5 hg6 (.inr (by simp[Value.ownBlock];omega))
    have hvr6:=hvr5.grown (fun _ x hx=>by cases hx;exact hV4) hg6
    have hx7:Below w2.heap.size w2 w6:=hx6.grown hg6 (by omega) (fun k hk=>by injection hk with hk;omega)
    have hw6:=hg6.size
    have hdq:val part/V<4294967296:=(Nat.div_lt_iff_lt_mul hVpos).2 hplt
    have STEP:=long_step hpre hpart hl' hVn hVpos INV.out hd' hv'
    obtain⟨dq,DQ⟩:∃x,Hid (val part/V=x):=⟨_,rfl⟩
    rw[DQ.out] at hdq STEP ⊢
    have hcq:w6.cell? ⟨w3.heap.size,k,none⟩=some (.int .u32 0):=by
     rw[World.ownsRow.cellAt hownQ6 k (by omega)]
     exact enc_zero k qs
    have hfq:=World.ownsRow.frozenAt hownQ6 k
    obtain⟨hownQ7,_⟩:=World.ownsRow.stored hownQ6 k (.int .u32 (dq:Int))
    rw[enc_put] at hownQ7
    have hs7:=grownBy_setCell w6 ⟨w3.heap.size,k,none⟩ (.int .u32 (dq:Int))
    have hownU7:=World.ownsRow.kept hownU6 hs7 (.inr (by simp[Value.ownBlock];omega))
    have hvr7:=hvr6.grown (fun _ x hx=>by cases hx;exact Nat.ne_of_lt hv3) hs7
    have hx8:Below w2.heap.size w2 (w6.setCell ⟨w3.heap.size,k,none⟩ (.int .u32 (dq:Int))):=hx7.setCell (by show w2.heap.size<=w3.heap.size;exact HX3.out.size) _
    have A1:=Lib.hid hownU7
    have A2:=Lib.hid hownQ7
    have A3:=Lib.hid hvr7
    have A4:=Lib.hid hx8
    have A5:=Lib.hid STEP
    clear hownU6 hownU7 hownQ6 hownQ7 hownQ5 hvr5 hvr6 hvr7 hx6 hx7 hx8 hs7 hg6 STEP
    go_wp2
    refine⟨⟨k,pre++(part'++post),dq::qs,rfl,by simp;omega,?_,A5.out,A1.out,A2.out,A3.out,A4.out⟩,by simp[intOf]⟩
    rw[<- hul,List.length_append,List.length_append,List.length_append,List.length_append,hl',hpart]
theorem divOn_all:DivOn 64:=by
 intro x y px py lx cx ly cy W hx hy h1 h2 tx ty h3 h4 h5
 by_cases hlt:val x<val y
 ·exact num_divide_less x y px py lx cx ly cy W hx hy h1 h2 tx ty hlt
 ·by_cases h6 : y.length = 1
  ·exact num_divide_small x y px py lx cx ly cy W hx hy h1 h2 tx ty (by omega) h6
  ·exact num_divide_long x y px py lx cx ly cy (y.length-2) W hx hy h1 h2 tx ty (by omega) (by omega) (by omega)
end
theorem div_all(a b:Nm)(r:Nm×Nm×Bool)(na nb:Bool)(pa pb:Option Addr)(la ca lb cb:Nat)(w:World)(ha:NR w na pa la ca a)(hb:NR w nb pb lb cb b)(h:divP a b=r) :
  Calls Tryz.prog 87 #[.agg #[.bool na,.slice pa la ca],.agg #[.bool nb,.slice pb lb cb]] w (RetDiv w r) :=
 h ▸ num_Div a b na nb pa pb la ca lb cb w ha hb (fun ra rb h0 W hx=>divOn_all a.d b.d pa pb la ca lb cb W (ha.2.2.ext hx) (hb.2.2.ext hx) ha.2.1 hb.2.1 (a.right_iff.1 ra).2.1 (b.right_iff.1 rb).2.1 (a.right_iff.1 ra).1 h0 (b.right_iff.1 rb).1)
theorem gcd_all(a b:Nm)(r:Nm×Bool)(na nb:Bool)(pa pb:Option Addr)(la ca lb cb:Nat)(w:World)(ha:NR w na pa la ca a)(hb:NR w nb pb lb cb b)(rb:b.right=true)(h:gcdP a b=r) :
  Calls Tryz.prog 86 #[.agg #[.bool na,.slice pa la ca],.agg #[.bool nb,.slice pb lb cb]] w (RetNum w r) :=
 h ▸ num_Gcd a b na nb pa pb la ca lb cb w ha hb 64 (b.right_iff.1 rb).1 divOn_all
theorem val_ofZ(z:Int):val (ofZ z).d=z.natAbs:=val_digs _
theorem len_ofZ(z:Int):(ofZ z).d.length=0 <-> z=0:=by
 simp only[ofZ]
 constructor
 ·intro h;have:=digs_eq_nil.1 (List.eq_nil_of_length_eq_zero h);omega
 ·rintro rfl;rw[Int.natAbs_zero,digs_zero];rfl
theorem divP_of{x:Int}{n:Nat}(hx:small x=true)(hn:small (n:Int)=true)(h0:0<n):divP (ofZ x) (ofZ (n:Int))=(ofZ (x/(n:Int)),ofZ (x%(n:Int)),true):=by
 have hl:0<(ofZ (n:Int)).d.length:=by
  rcases Nat.eq_zero_or_pos (ofZ (n:Int)).d.length with g|g
  ·have:=(len_ofZ _).1 g;omega
  ·exact g
 rw[divP_yes (ofZ_right hx) (ofZ_right hn) (by simp[ofZ]) hl,ofZ_z,val_ofZ,Int.natAbs_natCast]
theorem neg_ofZ{n:Nat}:(ofZ (n:Int)).neg=false:=by simp[ofZ]
theorem lit_0:ofZ 0=⟨false,[]⟩:=by unfold ofZ;simp[digs_zero]
theorem gcdP_right{a b:Nm}(ra:a.right=true)(rb:b.right=true):gcdP a b=(ofZ ((Nat.gcd (val a.d) (val b.d):Nat):Int),true):=by
 unfold gcdP
 rw[ra,rb]
 rfl
theorem divP_nm{a:Nm}{g:Nat}(ra:a.right=true)(hg:small (g:Int)=true)(h0:0<g):divP a (ofZ (g:Int))=(ofZ (a.z/(g:Int)),ofZ (a.z%(g:Int)),true):=by
 have hl:0<(ofZ (g:Int)).d.length:=by
  rcases Nat.eq_zero_or_pos (ofZ (g:Int)).d.length with k|k
  ·have:=(len_ofZ _).1 k;omega
  ·exact k
 rw[divP_yes ra (ofZ_right hg) neg_ofZ hl,val_ofZ,Int.natAbs_natCast]
structure Rt where
 add:Int
 s:Int
 n:Nm
 d:Nm
def Rt.no:Rt:=⟨0,0,zero,zero⟩
def ofBad(s:Int)(n d:Nm):Bool:=decide (s < -1)||decide (1<s) || !n.right || !d.right||n.neg||decide (d.z<=0)
def gcdN(n d:Nm):Int:=((Nat.gcd (val n.d) (val d.d):Nat):Int)
def ofP(add s:Int)(n d:Nm):Rt×Bool :=
 if ofBad s n d then (Rt.no,false)
 else if s=0\/n.z=0 then (⟨add,0,zero,ofZ 1⟩,true)
 else if 8<max (ofZ (n.z/gcdN n d)).d.length (ofZ (d.z/gcdN n d)).d.length then (Rt.no,false)
 else (⟨add,s,ofZ (n.z/gcdN n d),ofZ (d.z/gcdN n d)⟩,true)
def Rt.right(a:Rt):Bool:=(ofP a.add a.s a.n a.d).2&&((ofP a.add a.s a.n a.d).1.s==a.s&&(cmpP a.n (ofP a.add a.s a.n a.d).1.n==0&&cmpP a.d (ofP a.add a.s a.n a.d).1.d==0))
theorem ofBad_false{s:Int}{n d:Nm}(h:ofBad s n d=false) : -1<=s/\s<=1/\n.right=true/\d.right=true/\n.neg=false/\0<d.z:=by
 simp only[ofBad,Bool.or_eq_false_iff,decide_eq_false_iff_not,Bool.not_eq_false'] at h
 obtain⟨⟨⟨⟨⟨h1,h2⟩,h3⟩,h4⟩,h5⟩,h6⟩:=h
 exact⟨by omega,by omega,h3,h4,h5,by omega⟩
theorem ofBad_of{s:Int}{n d:Nm}(h1 : -1<=s)(h2:s<=1)(h3:n.right=true)(h4:d.right=true)(h5:n.neg=false)(h6:0<d.z):ofBad s n d=false:=by
 simp only[ofBad,Bool.or_eq_false_iff,decide_eq_false_iff_not,Bool.not_eq_false']
 exact⟨⟨⟨⟨⟨by omega,by omega⟩,h3⟩,h4⟩,h5⟩,by omega⟩
theorem z_pos{n:Nm}(h:n.neg=false):n.z=(val n.d:Int):=by unfold Nm.z;rw[h];rfl
theorem d_pos{d:Nm}(h:0<d.z):d.z=(val d.d:Int)/\0<val d.d:=by
 unfold Nm.z at *
 split at h
 ·omega
 ·rename_i g
  rw[if_neg g]
  exact⟨rfl,by omega⟩
theorem small_div{x:Nm}(hd:Dig x.d)(hr:x.right=true)(g:Nat):small ((val x.d/g:Nat):Int)=true:=by
 refine small_of_le hd hr ?_
 rw[Int.natAbs_natCast]
 exact Nat.div_le_self _ _
theorem ofP_main{add s:Int}{n d:Nm}(hn:n.neg=false)(hd:0<d.z)(hb:ofBad s n d=false)(h0:¬(s=0\/n.z=0)) :
  ofP add s n d=if 8<max (ofZ ((val n.d/Nat.gcd (val n.d) (val d.d):Nat):Int)).d.length (ofZ ((val d.d/Nat.gcd (val n.d) (val d.d):Nat):Int)).d.length then (Rt.no,false)
   else (⟨add,s,ofZ ((val n.d/Nat.gcd (val n.d) (val d.d):Nat):Int),ofZ ((val d.d/Nat.gcd (val n.d) (val d.d):Nat):Int)⟩,true):=by
 unfold ofP
 rw[hb,if_neg (by simp),if_neg h0,z_pos hn,(d_pos hd).1]
 rfl
theorem cmpP_self{a:Nm}(h:a.right=true):cmpP a a=0:=by
 unfold cmpP cmpZ
 rw[h]
 simp
theorem right_of{a:Rt}(h:ofP a.add a.s a.n a.d=(a,true))(h1:a.n.right=true)(h2:a.d.right=true):a.right=true:=by
 unfold Rt.right
 rw[h]
 simp[cmpP_self h1,cmpP_self h2]
structure Rt.Ok (a:Rt):Prop where
 sl : -1<=a.s
 su:a.s<=1
 nr:a.n.right=true
 dr:a.d.right=true
 nn:a.n.neg=false
 dn:a.d.neg=false
 dp:0<val a.d.d
 nl:a.n.d.length<=8
 dl:a.d.d.length<=8
 n0:a.s=0->val a.n.d=0/\val a.d.d=1
 n1:a.s≠0->0<val a.n.d
 co:Nat.gcd (val a.n.d) (val a.d.d)=1
theorem one_right:(ofZ 1).right=true:=by decide +kernel
theorem val_one_ofZ:val (ofZ 1).d=1:=by rw[val_ofZ];rfl
theorem zero_right0:zero.right=true:=rfl
theorem ofZ_one_len:(ofZ 1).d.length=1:=by
 have:(ofZ 1).d=[1]:=by simp only[ofZ];rw[show (1:Int).natAbs=1 from rfl,digs_pos (by decide),show 1/4294967296=0 from rfl,digs_zero]
 rw[this];rfl
theorem ofP_ok{add s:Int}{n d:Nm}(hdn:Dig n.d)(hdd:Dig d.d){a:Rt}(h:ofP add s n d=(a,true)):a.Ok/\ofP a.add a.s a.n a.d=(a,true)/\a.add=add:=by
 cases hb:ofBad s n d with
 | true=>unfold ofP at h;rw[hb] at h;simp at h
 | false =>
  obtain⟨s1,s2,rn,rd,nn,dp⟩:=ofBad_false hb
  by_cases h0:s=0\/n.z=0
  ·unfold ofP at h
   rw[hb,if_neg (by simp),if_pos h0] at h
   obtain rfl:(⟨add,0,zero,ofZ 1⟩:Rt)=a:=congrArg Prod.fst h
   refine⟨⟨show (-1:Int)<=0 by decide,show (0:Int)<=1 by decide,zero_right0,one_right,rfl,by simp[ofZ],by rw[val_one_ofZ];decide,Nat.zero_le _,by rw[ofZ_one_len];decide,fun _=>⟨rfl,val_one_ofZ⟩,fun g=>absurd rfl g,?_⟩,?_,rfl⟩
   ·show Nat.gcd (val zero.d) (val (ofZ 1).d) = 1
    rw[val_one_ofZ,Nat.gcd_one_right]
   ·unfold ofP
    rw[ofBad_of (show (-1:Int)<=0 by decide) (show (0:Int)<=1 by decide) zero_right0 one_right rfl (by rw[ofZ_z];decide),if_neg (by simp),if_pos (.inl rfl)]
  ·rw [ofP_main nn dp hb h0] at h
   split at h
   ·simp at h
   ·rename_i hl
    obtain⟨ed,pd⟩:=d_pos dp
    have en:=z_pos nn
    have hn0:0<val n.d:=by
     rcases Nat.eq_zero_or_pos (val n.d) with g|g
     ·exfalso;apply h0;right;rw[en,g];rfl
     ·exact g
    have sN:=small_div hdn rn (Nat.gcd (val n.d) (val d.d))
    have sD:=small_div hdd rd (Nat.gcd (val n.d) (val d.d))
    have hg:0<Nat.gcd (val n.d) (val d.d):=Nat.gcd_pos_of_pos_left _ hn0
    have hco:Nat.gcd (val n.d/Nat.gcd (val n.d) (val d.d)) (val d.d/Nat.gcd (val n.d) (val d.d))=1:=by
     rw[Nat.gcd_div (Nat.gcd_dvd_left _ _) (Nat.gcd_dvd_right _ _),Nat.div_self hg]
    have pN:0<val n.d/Nat.gcd (val n.d) (val d.d):=Nat.div_pos (Nat.gcd_le_left _ hn0) hg
    have pD:0<val d.d/Nat.gcd (val n.d) (val d.d):=Nat.div_pos (Nat.gcd_le_right _ pd) hg
    generalize val n.d/Nat.gcd (val n.d) (val d.d)=N at *
    generalize val d.d/Nat.gcd (val n.d) (val d.d)=D at *
    obtain rfl:(⟨add,s,ofZ (N:Int),ofZ (D:Int)⟩:Rt)=a:=congrArg Prod.fst h
    have vN:val (ofZ (N:Int)).d=N:=by rw[val_ofZ];rfl
    have vD:val (ofZ (D:Int)).d=D:=by rw[val_ofZ];rfl
    refine⟨⟨s1,s2,ofZ_right sN,ofZ_right sD,neg_ofZ,neg_ofZ,by rw[vD];exact pD,by show (ofZ (N:Int)).d.length<=8;omega,by show (ofZ (D:Int)).d.length<=8;omega,fun g=>absurd (.inl g) h0,fun _=>by rw[vN];exact pN,by rw[vN,vD];exact hco⟩,?_,rfl⟩
    show ofP add s (ofZ (N:Int)) (ofZ (D:Int))=_
    rw[ofP_main neg_ofZ (by rw[ofZ_z];omega) (ofBad_of s1 s2 (ofZ_right sN) (ofZ_right sD) neg_ofZ (by rw[ofZ_z];omega)) (by rw[ofZ_z];intro g;rcases g with g|g;exact h0 (.inl g);omega),vN,vD,hco,Nat.div_one,Nat.div_one,if_neg hl]
theorem right_ok{a:Rt}(hdn:Dig a.n.d)(hdd:Dig a.d.d)(h:a.right=true):a.Ok/\ofP a.add a.s a.n a.d=(a,true):=by
 obtain⟨b,hb⟩:∃b,ofP a.add a.s a.n a.d=b:=⟨_,rfl⟩
 obtain⟨b,ok⟩:=b
 have hr:=h
 unfold Rt.right at hr
 rw[hb] at hr ⊢
 simp only[Bool.and_eq_true,beq_iff_eq] at hr
 obtain⟨rfl,h1,h2,h3⟩:=hr
 obtain⟨k1,_,k3⟩:=ofP_ok hdn hdd hb
 have hbad:ofBad a.s a.n a.d=false:=by
  cases hq:ofBad a.s a.n a.d with
  | false=>rfl
  | true=>unfold ofP at hb;rw[hq] at hb;simp at hb
 obtain⟨_,_,rn,rd,_,_⟩:=ofBad_false hbad
 have eqz:∀ {x y:Nm},Dig x.d->x.right=true->y.right=true->(∃z,y=ofZ z)->cmpP x y=0->x=y:=by
  rintro x y hx rx ry ⟨z,rfl⟩ hc
  unfold cmpP cmpZ at hc
  rw[rx,ry] at hc
  have hz:x.z=(ofZ z).z:=by
   simp only[Bool.and_self,if_true] at hc
   split at hc
   ·omega
   ·split at hc
    ·assumption
    ·omega
  rw[ofZ_z] at hz
  rw[<- ofZ_of_right hx rx,hz]
 have hform:(∃z,b.n=ofZ z)/\∃z,b.d=ofZ z:=by
  unfold ofP at hb
  rw[hbad,if_neg (by simp)] at hb
  split at hb
  ·obtain rfl : (⟨a.add, 0, zero, ofZ 1⟩ : Rt) = b := congrArg Prod.fst hb
   exact⟨⟨0,lit_0.symm⟩,⟨1,rfl⟩⟩
  ·split at hb
   ·simp at hb
   ·obtain rfl := congrArg Prod.fst hb
    exact⟨⟨_,rfl⟩,⟨_,rfl⟩⟩
 have e1:=eqz hdn rn k1.nr hform.1 h2
 have e2:=eqz hdd rd k1.dr hform.2 h3
 have:b=a:=by
  cases a;cases b
  simp only at *
  subst e1 e2 h1 k3
  rfl
 subst this
 exact⟨k1,rfl⟩

set_option maxHeartbeats 2000000
set_option maxRecDepth 100000
section
theorem Row.set'{w:World}{p:Option Addr}{c:Nat}{d:List Nat}(h:Row w p c d)(a:Addr)(hn:∀x,p=some x->x.block≠a.block)(v:Value):Row (w.setCell a v) p c d:=by
 refine⟨h.1,h.2.1,h.2.2.1,fun h0=>?_⟩
 obtain⟨b,o,hp,hlt,hc⟩:=h.2.2.2 h0
 refine⟨b,o,hp,by simpa[World.setCell] using hlt,fun i hi=>?_⟩
 have hb:=hn _ hp
 rw[<- hc i hi]
 exact World.cell?_of_block (Below.heap_setCell _ _ _ _ hb)
theorem NR.set'{w:World}{n:Bool}{p:Option Addr}{l c:Nat}{a:Nm}(h:NR w n p l c a)(x:Addr)(hn:∀y,p=some y->y.block≠x.block)(v:Value):NR (w.setCell x v) n p l c a :=
 ⟨h.1,h.2.1,h.2.2.set' x hn v⟩
theorem NR.zero(w:World):NR w false none 0 0 zero:=⟨rfl,rfl,Row.nil w⟩
theorem zero_z:zero.z=0:=rfl
theorem zero_right:zero.right=true:=rfl
def sgn(z:Int):Int:=cmpZ z 0
theorem cmpP_zero{a:Nm}(ra:a.right=true):cmpP a zero=sgn a.z:=by
 unfold cmpP
 rw[ra,zero_right,zero_z]
 rfl
theorem root_sign(a:Nm)(n:Bool)(p:Option Addr)(l c:Nat)(w:World)(h:NR w n p l c a)(ra:a.right=true) :
  Calls Tryz.prog 71 #[.agg #[.bool n,.slice p l c]] w fun e w'=>e=.returned (.int .i64 (sgn a.z))/\Ext w w':=by
 have S:=Lib.hid (cmpP_zero ra)
 go_enter Tryz.func71,Tryz.ntmps71
 go_wp2_with fail
 refine (num_Cmp a zero _ _ _ _ _ _ _ _ _ (h.ext bxx) (NR.zero _)).mono ?_
 rintro e w1 ⟨rfl,hx⟩
 rw[S.out]
 have hx0:Ext w w1:=Ext.step bxx hx
 go_wp2
 go_ret
 exact⟨rfl,hx0⟩
def prodZ(l:List Nm):Int:=l.foldl (fun z a=>z*a.z) 1
theorem prodZ_snoc(l:List Nm)(a:Nm):prodZ (l++[a])=prodZ l*a.z:=by simp[prodZ]
theorem prodZ_take(l:List Nm)(k:Nat)(a:Nm)(h:l[k]? = some a):prodZ (l.take (k+1))=prodZ (l.take k)*a.z:=by
 have hk:=(List.getElem?_eq_some_iff.1 h).1
 rw[List.take_succ_eq_append_getElem hk,prodZ_snoc]
 rw[List.getElem?_eq_getElem hk] at h
 cases h
 rfl
def NRs(w:World)(b:Nat)(l:List Nm):Prop :=
 b<w.heap.size/\∀i a,l[i]? = some a->a.right=true/\∃n p li c,w.cell? ⟨b,i*2,none⟩=some (.bool n)/\w.cell? ⟨b,i*2+1,none⟩=some (.slice p li c)/\NR w n p li c a
theorem NRs.ext{w w':World}{b:Nat}{l:List Nm}(h:NRs w b l)(hx:Ext w w'):NRs w' b l:=by
 refine⟨Nat.lt_of_lt_of_le h.1 hx.size,fun i a hi=>?_⟩
 obtain⟨hr,n,p,li,c,h1,h2,h3⟩:=h.2 i a hi
 exact⟨hr,n,p,li,c,by rw[hx.cell (p:=⟨b,i*2,none⟩) h.1];exact h1,by rw[hx.cell (p:=⟨b,i*2+1,none⟩) h.1];exact h2,h3.ext hx⟩
theorem mulP_small{a b:Nm}{z:Int}(ra:a.right=true)(rb:b.right=true)(hz:a.z*b.z=z)(hs:small z=true):mulP a b=(ofZ z,true):=by
 unfold mulP fit
 rw[ra,rb,hz,hs]
 rfl
theorem root_times(l:List Nm)(b:Nat)(n c:Nat)(w:World)(h:NRs w b l)(hn:n=l.length)(hl:l.length<=1000)(hs:∀k,small (prodZ (l.take k))=true) :
  Calls Tryz.prog 36 #[.slice (some ⟨b,0,none⟩) n c] w (RetN w (ofZ (prodZ l))):=by
 subst hn
 have HS:=Lib.hid hs
 clear hs
 have HN:=Lib.hid h
 have hb:=h.1
 clear h
 go_enter Tryz.func36,Tryz.ntmps36
 go_wp2_with fail
 refine (num_Of 1 _ (by omega) (by omega)).mono ?_
 rintro e w1 ⟨n1,p1,l1,c1,rfl,hnr,hnew,hx⟩
 have hx0:Ext w w1:=Ext.step bxx hx
 obtain⟨hz_w1,hl_w1_0,hk_w1_0,hf_w1_0⟩:=keepK1 hx w.heap.size
 go_wp2_with fail
 have r0:w1.cell? ⟨w.heap.size,0,none⟩=some (.bool false):=by go_simp
 have r1:w1.cell? ⟨w.heap.size,1,none⟩=some (.slice none 0 0):=by go_simp
 have rf:∀o,w1.frozen? ⟨w.heap.size,o,none⟩=false:=by intro o;go_simp
 obtain⟨g,G⟩:∃g,Hid (w1.heap.size=g):=⟨_,rfl⟩
 have hg0:w.heap.size<g:=by rw[<- G.out];exact hl_w1_0
 obtain⟨w2,W2⟩:∃w2,Hid (w1.alloc (.cells #[.bool n1,.slice p1 l1 c1] 32)=w2):=⟨_,rfl⟩
 rw[W2.out,G.out]
 have hx1:Ext w w2:=by rw[<- W2.out];exact bxx
 have hg1:g<w2.heap.size:=by rw[<- W2.out,<- G.out];simp
 have g0:w2.cell? ⟨g,0,none⟩=some (.bool n1):=by rw[<- W2.out,<- G.out];go_simp
 have g1:w2.cell? ⟨g,1,none⟩=some (.slice p1 l1 c1):=by rw[<- W2.out,<- G.out];go_simp
 have gf:∀o,w2.frozen? ⟨g,o,none⟩=false:=by intro o;rw[<- W2.out,<- G.out];go_simp
 have s0:w2.cell? ⟨w.heap.size,0,none⟩=some (.bool false):=by rw[<- W2.out];go_simp
 have s1:w2.cell? ⟨w.heap.size,1,none⟩=some (.slice none 0 0):=by rw[<- W2.out];go_simp
 have sf:∀o,w2.frozen? ⟨w.heap.size,o,none⟩=false:=by intro o;rw[<- W2.out];go_simp
 have hnr2:NR w2 n1 p1 l1 c1 (ofZ (prodZ (l.take 0))):=by rw[<- W2.out];exact hnr.alloc _
 have hnew2:∀x,p1=some x->w.heap.size<x.block:=fun x hx=>by have:=hnew x hx;simp at this;omega
 clear hnr hnew hx0 hk_w1_0 hf_w1_0 hl_w1_0 hz_w1 hx r0 r1 rf
 go_loopw [11] (fun i wr=>∃(k:Nat) (n':Bool) (p':Option Addr) (l' c':Nat),k<=l.length/\i=.int .i64 (k:Int)/\wr.cell? ⟨g,0,none⟩=some (.bool n')/\wr.cell? ⟨g,1,none⟩=some (.slice p' l' c')/\(∀o,wr.frozen? ⟨g,o,none⟩=false) /\
   NR wr n' p' l' c' (ofZ (prodZ (l.take k)))/\(∀x,p'=some x->w.heap.size<x.block)/\wr.cell? ⟨w.heap.size,0,none⟩=some (.bool false)/\wr.cell? ⟨w.heap.size,1,none⟩=some (.slice none 0 0)/\(∀o,wr.frozen? ⟨w.heap.size,o,none⟩=false)/\g<wr.heap.size/\Ext w wr) (fun i _=>l.length-(intOf i).toNat)
 case atStart=>exact⟨0,n1,p1,l1,c1,Nat.zero_le _,rfl,g0,g1,gf,hnr2,hnew2,s0,s1,sf,hg1,hx1⟩
 case round =>
  clear g0 g1 gf hnr2 hnew2 s0 s1 sf hg1 hx1
  obtain⟨k,n',p',l',c',hk,rfl,g0,g1,gf,hnr,hnew,s0,s1,sf,hg1,hx⟩:=hrel
  by_cases hlt:k<l.length
  ·have hb2 : b < wr.heap.size := Nat.lt_of_lt_of_le hb hx.size
   obtain⟨ra,n2,p2,l2,c2,e0,e1,hna⟩:=(HN.out.ext hx).2 k l[k] (List.getElem?_eq_getElem hlt)
   have PR:=Lib.hid (prodZ_take l k l[k] (List.getElem?_eq_getElem hlt))
   have HNW:=Lib.hid hnew
   clear hnew
   go_wp2_with fail
   have MP:=Lib.hid (mulP_small (ofZ_right (HS.out k)) ra (by rw[ofZ_z];exact PR.out.symm) (HS.out (k+1)))
   refine (num_Mul (ofZ (prodZ (l.take k))) l[k] _ _ _ _ _ _ _ _ _ (hnr.alloc _) (hna.alloc _)).mono ?_
   rintro e w3 ⟨n3,p3,l3,c3,rfl,hnr3,hnew3,hx3⟩
   rw[MP.out] at hnr3 ⊢
   have hx4:Ext wr w3:=Ext.step bxx hx3
   have hx5:Ext w w3:=Ext.step hx hx4
   have g0':w3.cell? ⟨g,0,none⟩=some (.bool n'):=(hx4.cell (p:=⟨g,0,none⟩) hg1).trans g0
   have g1':w3.cell? ⟨g,1,none⟩=some (.slice p' l' c'):=(hx4.cell (p:=⟨g,1,none⟩) hg1).trans g1
   have gf':∀o,w3.frozen? ⟨g,o,none⟩=false:=fun o=>(hx4.frozen (p:=⟨g,o,none⟩) hg1).trans (gf o)
   have hw0:w.heap.size<wr.heap.size:=by omega
   have s0':w3.cell? ⟨w.heap.size,0,none⟩=some (.bool false):=(hx4.cell (p:=⟨w.heap.size,0,none⟩) hw0).trans s0
   have s1':w3.cell? ⟨w.heap.size,1,none⟩=some (.slice none 0 0):=(hx4.cell (p:=⟨w.heap.size,1,none⟩) hw0).trans s1
   have sf':∀o,w3.frozen? ⟨w.heap.size,o,none⟩=false:=fun o=>(hx4.frozen (p:=⟨w.heap.size,o,none⟩) hw0).trans (sf o)
   have hg2:g<w3.heap.size:=Nat.lt_of_lt_of_le hg1 hx4.size
   have hw2:w.heap.size<w3.heap.size:=by omega
   have hnew4:∀x,p3=some x->wr.heap.size<x.block:=fun x hx=>by have:=hnew3 x hx;simp at this;omega
   have NEW:=Lib.hid hnew4
   clear hnew3 hnew4 g0 g1 gf s0 s1 sf hnr hna hx3 e0 e1
   go_wp2_with fail
   refine⟨⟨k+1,n3,p3,l3,c3,by omega,rfl,by go_simp,by go_simp,fun o=>by go_simp,?_,fun x hx=>by have:=NEW.out x hx;omega,by go_simp,by go_simp,fun o=>by go_simp,by simp;omega,bxx⟩,by simp[intOf];omega⟩
   refine (NR.set' (NR.set' hnr3 _ ?_ _) _ ?_ _).alloc _
   ·intro y hy;have:=NEW.out y hy;simp;omega
   ·intro y hy;have:=NEW.out y hy;simp;omega
  ·obtain rfl : k = l.length := by omega
   rw[List.take_of_length_le (Nat.le_refl _)] at hnr
   have HNW:=Lib.hid hnew
   have hw0:w.heap.size<wr.heap.size:=by omega
   clear hnew
   go_wp2_with fail
   refine bodyPost_ret (v:=.agg #[.bool n',.slice p' l' c']) (by simp[results,Tryz.results36,go_sem, *]) rfl ?_
   refine⟨n',p',l',c',rfl,?_,fun x hx=>Nat.le_of_lt (HNW.out x hx),bxx⟩
   refine NR.set' (NR.set' hnr _ ?_ _) _ ?_ _
   ·intro y hy;have:=HNW.out y hy;simp;omega
   ·intro y hy;have:=HNW.out y hy;simp;omega
end
end Go.Proofs.YtcfpcafnjgpfdaaGreat
