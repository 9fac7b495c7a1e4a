import Derived.Test.YtcfpcafnjgpfdaaGreatK16
import Derived.Test.YtcfpcafnjgpfdaaGreatK15
import Derived.Deep.DeepCutAuto
set_option linter.unusedVariables false
set_option linter.unusedSimpArgs false

namespace Go.Proofs.YtcfpcafnjgpfdaaGreat
open Go.RowKit

set_option maxHeartbeats 4000000
set_option maxRecDepth 100000
section
theorem own_len{w:World}{B e:Nat}{v:Value}{n:Nat}{o:List Nat}(h:w.ownsRow B e 1 v n (enc o)):o.length=n:=by
 have:=h.1
 rwa [enc_length,Nat.mul_one] at this
theorem own_cell{w:World}{B e g n c:Nat}{o:List Nat}(h:w.ownsRow B e 1 (.slice (some ⟨g,0,none⟩) n c) n (enc o))(j q:Nat)(hj:j<n)(hq:o[j]?.getD 0=q):w.cell? ⟨g,j,none⟩=some (.int .u32 (q:Int)):=by
 rw[h.cellAt j (by omega),enc_get o j (by rw[own_len h];exact hj),hq]
theorem own_set{w:World}{B e g n c:Nat}{o:List Nat}(h:w.ownsRow B e 1 (.slice (some ⟨g,0,none⟩) n c) n (enc o))(j d:Nat) :
  (w.setCell ⟨g,j,none⟩ (.int .u32 (d:Int))).ownsRow B e 1 (.slice (some ⟨g,0,none⟩) n c) n (enc (o.set j d))/\w.grownBy (w.setCell ⟨g,j,none⟩ (.int .u32 (d:Int))) (some g):=by
 have:=h.stored j (.int .u32 (d:Int))
 have e:(enc o).set j (.int .u32 (d:Int))=enc (o.set j d):=by simp[enc,List.map_set]
 rw[e] at this
 exact this
theorem mulP_left{a b:Nm}(ha:a.right=false):mulP a b=(zero,false):=by simp[mulP,ha]
theorem mulP_right{a b:Nm}(hb:b.right=false):mulP a b=(zero,false):=by simp[mulP,hb]
theorem mulP_made{a b:Nm}{o:List Nat}(ra:a.right=true)(rb:b.right=true)(hv:val o=val a.d*val b.d):madeP (a.neg != b.neg) o=mulP a b:=by
 rw[madeP_fit,mulP,ra,rb,hv,Nm.z,Nm.z]
 have e:(((val a.d*val b.d:Nat)):Int)=(val a.d:Int)*(val b.d:Int):=by simp
 rw[e]
 cases a.neg<;>cases b.neg<;>simp[Int.neg_mul,Int.mul_neg]
theorem num_mul_main(a b:Nm)(na nb:Bool)(pa pb:Option Addr)(la ca lb cb:Nat)(w:World)(ha:NR w na pa la ca a)(hb:NR w nb pb lb cb b)(ra:a.right=true)(rb:b.right=true) :
  Calls Tryz.prog 70 #[.agg #[.bool na,.slice pa la ca],.agg #[.bool nb,.slice pb lb cb]] w (RetNum w (mulP a b)):=by
 have la64:=ha.len ra
 have lb64:=hb.len rb
 have hla:=ha.2.1
 have hlb:=hb.2.1
 have rowa:=ha.2.2
 have rowb:=hb.2.2
 have hnn:(na != nb)=(a.neg != b.neg):=by rw[ha.1,hb.1]
 have HNN:=Lib.hid hnn
 have la64':la<=64:=by omega
 have lb64':lb<=64:=by omega
 have HLA:=Lib.hid hla
 have HLB:=Lib.hid hlb
 clear hla hlb hnn
 obtain⟨i,hi,hz0,hz1,hz2⟩:=info_parts info32
 go_enter Tryz.func70,Tryz.ntmps70
 go_wp2_with fail
 refine (num_Right a _ _ _ _ _ (ha.ext bxx)).mono ?_
 rintro e w1 ⟨rfl,hx⟩
 rw[ra]
 have hx0:Ext w w1:=Ext.step bxx hx
 obtain⟨_,⟨_,hk_w1_0,hf_w1_0⟩,⟨_,hk_w1_1,hf_w1_1⟩,_,hk_w1_2,hf_w1_2⟩:=keepK3 hx w.heap.size
 go_wp2_with fail
 refine (num_Right b _ _ _ _ _ (hb.ext bxx)).mono ?_
 rintro e w2 ⟨rfl,hx2⟩
 rw[rb]
 have hx1:Ext w w2:=Ext.step hx0 hx2
 obtain⟨hz_w2,⟨_,hk_w2_0,hf_w2_0⟩,⟨_,hk_w2_1,hf_w2_1⟩,_,hk_w2_2,hf_w2_2⟩:=keepK3 hx2 w.heap.size
 obtain⟨N,hN⟩:∃N,N=la+lb:=⟨_,rfl⟩
 have hN1:N<=la+lb:=Nat.le_of_eq hN
 have hN2:la+lb<=N:=Nat.le_of_eq hN.symm
 clear hN
 go_wp2_with (at_make;refine wpList_make_full _ rfl _ _ 30 rfl w2.heap.size 113 i (.int .u32 0) 1 Tryz.underlying30 hi hz0 hz1 _ _ _ _ N rfl rfl (by omega) (by omega) (by rw[hz2];omega) (by unfold maxLen;omega) (Nat.le_refl _) ?_)
 intro w3 hown hgr
 rw[show (madeCells #[Value.int IntKind.u32 0] N).toList=enc (List.replicate N 0) from by rw[enc,List.map_replicate];exact toList_madeCells_one _ _] at hown
 obtain⟨g,G⟩:∃g,Hid (w2.heap.size=g):=⟨_,rfl⟩
 have hx3:Ext w2 w3:=⟨hgr.os,hgr.tape,hgr.output,hgr.size,fun k hk=>hgr.block k hk (by simp)⟩
 have hx4:Ext w w3:=Ext.step hx1 hx3
 obtain⟨_,⟨_,hk_w3_0,hf_w3_0⟩,⟨_,hk_w3_1,hf_w3_1⟩,_,hk_w3_2,hf_w3_2⟩:=keepK3 hx3 w.heap.size
 rw[G.out] at hown ⊢
 have hg0:w.heap.size+3<=g:=by rw[<- G.out];exact hz_w2
 have hg1:g<w3.heap.size:=by
  obtain⟨_,h⟩:=hown
  rcases h with⟨h,_⟩|⟨g',_,_,h,_,hh,_⟩
  ·cases h
  ·cases h
   exact (Array.getElem?_eq_some_iff.1 hh).1
 clear hgr hx hx2 hx3 hx0
 go_wp2_with fail
 have c0:w3.cell? ⟨w.heap.size,0,none⟩=some (.bool na):=by go_simp
 have c1:w3.cell? ⟨w.heap.size,1,none⟩=some (.slice pa la ca):=by go_simp
 have c2:w3.cell? ⟨w.heap.size+1,0,none⟩=some (.bool nb):=by go_simp
 have c3:w3.cell? ⟨w.heap.size+1,1,none⟩=some (.slice pb lb cb):=by go_simp
 have c4:w3.cell? ⟨w.heap.size+2,0,none⟩=some (.bool false):=by go_simp
 have c5:w3.cell? ⟨w.heap.size+2,1,none⟩=some (.slice none 0 0):=by go_simp
 have f4:∀o,w3.frozen? ⟨w.heap.size+2,o,none⟩=false:=by intro o;go_simp
 have rowa3:=rowa.ext hx4
 have rowb3:=rowb.ext hx4
 have bla:0<a.d.length->∀x,pa=some x->x.block≠g:=by
  intro h0 x hx
  obtain⟨b',o,hp,hlt,_⟩:=rowa.at h0
  rw[hp] at hx
  cases hx
  exact Nat.ne_of_lt (show b'<g by omega)
 have blb:0<b.d.length->∀x,pb=some x->x.block≠g:=by
  intro h0 x hx
  obtain⟨b',o,hp,hlt,_⟩:=rowb.at h0
  rw[hp] at hx
  cases hx
  exact Nat.ne_of_lt (show b'<g by omega)
 have BLA:=Lib.hid bla
 have BLB:=Lib.hid blb
 have C0:=Lib.hid c0
 have C2:=Lib.hid c2
 have C4:=Lib.hid c4
 have C5:=Lib.hid c5
 have C1:=Lib.hid c1
 have C3:=Lib.hid c3
 have F4:=Lib.hid f4
 have RA:=Lib.hid rowa3
 have RB:=Lib.hid rowb3
 clear hk_w1_0 hk_w1_1 hk_w1_2 hf_w1_0 hf_w1_1 hf_w1_2 hk_w2_0 hk_w2_1 hk_w2_2 hf_w2_0 hf_w2_1 hf_w2_2 hk_w3_0 hk_w3_1 hk_w3_2 hf_w3_0 hf_w3_1 hf_w3_2 c0 c1 c2 c3 c4 c5 f4 rowa3 rowb3 bla blb rowa rowb ha hb
 go_loopw [32] (fun i wr=>∃(n:Nat) (o:List Nat),n<=la/\i=.int .i64 (n:Int)/\Dig o/\val o=val (a.d.take n)*val b.d/\Zeros o (n+lb)/\wr.ownsRow g 113 1 (.slice (some ⟨g,0,none⟩) N N) N (enc o)/\w3.grownBy wr (some g)) (fun i _=>la-(intOf i).toNat)
 case atStart=>exact⟨0,_,Nat.zero_le _,rfl,fun x hx=>by rw[List.eq_of_mem_replicate hx];decide,by rw[val_replicate];simp[val],Zeros.replicate _ _,hown,⟨rfl,rfl,rfl,Nat.le_refl _,fun _ _ _=>rfl⟩⟩
 case round =>
  clear hown
  obtain⟨n,o,hn,rfl,hd,hv,hz,hown,hg⟩:=hrel
  by_cases hlt:n<la
  ·have RAw := RA.out.grown BLA.out hg
   obtain⟨ba,oa,rfl,hba,hca⟩:=RAw.at (by rw[<- HLA.out];omega)
   have hca1:=hca n (by rw[<- HLA.out];omega)
   obtain⟨x,X⟩:∃x,Hid (a.d[n]?.getD 0=x):=⟨_,rfl⟩
   rw[X.out] at hca1
   have hxd:x<4294967296:=by have:=RA.out.dig.getD n;rw[List.getD_eq_getElem?_getD,X.out] at this;exact this
   have c3:wr.cell? ⟨w.heap.size+1,1,none⟩=some (.slice pb lb cb):=(World.cell?_of_block (hg.block _ (show w.heap.size+1<w3.heap.size by omega) (by simp;omega))).trans C3.out
   have M0:=Lib.hid (MulInv.start (a:=a.d) (b:=b.d) (i:=n) (x:=x) hd hv)
   clear hca hd hv
   have V:=Lib.hid hz
   clear hz
   go_wp2_with fail
   go_loopw [9,40] (fun cr kk wi=>∃(k c:Nat) (q:List Nat),k<=lb/\kk=.int .i64 (k:Int)/\cr=.int .u64 (c:Int)/\MulInv a.d b.d q n k x c/\Zeros q (n+lb)/\wi.ownsRow g 113 1 (.slice (some ⟨g,0,none⟩) N N) N (enc q)/\w3.grownBy wi (some g)) (fun _ kk _=>lb-(intOf kk).toNat)
   case atStart=>exact⟨0,0,o,Nat.zero_le _,rfl,rfl,M0.out,V.out,hown,hg⟩
   case round =>
    clear hown hg c3 hca1
    obtain⟨k,c,q,hk,rfl,rfl,hm,hz,hown,hg⟩:=hrel
    by_cases hkl:k<lb
    ·have RBw := RB.out.grown BLB.out hg
     obtain⟨bb,ob,rfl,hbb,hcb⟩:=RBw.at (by rw[<- HLB.out];omega)
     have hcb1:=hcb k (by rw[<- HLB.out];omega)
     obtain⟨y,Y⟩:∃y,Hid (b.d[k]?.getD 0=y):=⟨_,rfl⟩
     rw[Y.out] at hcb1
     have hyd:y<4294967296:=by have:=RB.out.dig.getD k;rw[List.getD_eq_getElem?_getD,Y.out] at this;exact this
     obtain⟨u,U⟩:∃u,Hid (q[n+k]?.getD 0=u):=⟨_,rfl⟩
     have hud:u<4294967296:=by have:=hm.1.getD (n+k);rw[List.getD_eq_getElem?_getD,U.out] at this;exact this
     have hql:=own_len hown
     have hcu:=own_cell hown (n+k) u (by omega) U.out
     have hfu:=hown.frozenAt (n+k)
     obtain⟨m,MM⟩:∃m,Hid (x*y=m):=⟨_,rfl⟩
     have hme:(x:Int)*(y:Int)=(m:Int):=by rw[<- MM.out];simp
     have hmb:m<=18446744065119617025:=by rw[<- MM.out];exact Nat.mul_le_mul (show x<=4294967295 by omega) (show y<=4294967295 by omega)
     have hcd:=hm.2.1
     have M1:=Lib.hid (hm.step (by omega) hxd Y.out hyd U.out hud MM.out)
     have hst:=own_set hown (n+k) ((c+(u+m))%4294967296)
     have ST:=Lib.hid hst.1
     have SG:=Lib.hid (grownBy_trans hg hst.2)
     have Tryz1:=Lib.hid (hz.set (j:=n+k) (d:=(c+(u+m))%4294967296) (by omega))
     clear hcb hm hst hz hql hown hg
     go_wp2
     have e:(((c+(u+m))%4294967296:Nat):Int)=((c:Int)+((u:Int)+(m:Int)))%4294967296:=by omega
     have s1:=ST.out
     have s2:=SG.out
     rw[e] at s1 s2
     exact⟨⟨k+1,(c+(u+m))/4294967296,_,by omega,rfl,ret_u64 (by omega),M1.out,Tryz1.out,s1,s2⟩,by simp[intOf];omega⟩
    ·have hk2 : lb <= k := by omega
     have hql:=own_len hown
     have hcu:=own_cell hown (n+lb) 0 (by omega) (hz _ (Nat.le_refl _))
     have hfu:=hown.frozenAt (n+lb)
     obtain rfl:k=lb:=by omega
     have c3:wr.cell? ⟨w.heap.size+1,1,none⟩=some (.slice pb k cb):=(World.cell?_of_block (hg.block _ (show w.heap.size+1<w3.heap.size by omega) (by simp;omega))).trans C3.out
     have hst:=own_set hown (n+k) c
     have ST:=Lib.hid hst.1
     have SG:=Lib.hid (grownBy_trans hg hst.2)
     have FIN:=Lib.hid (hm.finish (by rw[<- HLB.out];exact Nat.le_refl _) X.out (hz _ (Nat.le_refl _)) (by omega))
     have hcd:=hm.2.1
     have Tryz1:=Lib.hid ((hz.mono (show n+k<=n+1+k by omega)).set (j:=n+k) (d:=c) (by omega))
     clear hst hm hz hql hown hg
     go_wp2
     exact⟨⟨n+1,_,by omega,rfl,FIN.out.1,FIN.out.2,Tryz1.out,ST.out,SG.out⟩,by simp[intOf];omega⟩
  ·obtain rfl : n = la := by omega
   have hql:=own_len hown
   obtain⟨p',c',hv',hrow,_⟩:=row_of_owns hown hd
   obtain⟨rfl,rfl⟩:some (⟨g,0,none⟩:Addr)=p'/\N=c':=by
    simp only[Value.slice.injEq] at hv'
    exact⟨hv'.1,hv'.2.2⟩
   have MP:Hid (madeP (na != nb) o=mulP a b):=by
    have:=mulP_made ra rb (o:=o) (by rw[hv,HLA.out,List.take_of_length_le (Nat.le_refl _)])
    rw[HNN.out];exact this
   have ROW:=Lib.hid hrow
   have HQ:=Lib.hid hql
   have hx5:Ext w wr:=⟨hg.os.trans hx4.os,hg.tape.trans hx4.tape,hg.output.trans hx4.output,Nat.le_trans hx4.size hg.size,fun k hk=>(hg.block k (by omega) (by simp;omega)).trans (hx4.block k hk)⟩
   have kp:∀j o,j<3->wr.cell? ⟨w.heap.size+j,o,none⟩=w3.cell? ⟨w.heap.size+j,o,none⟩:=fun j o hj=>World.cell?_of_block (hg.block _ (show w.heap.size+j<w3.heap.size by omega) (by simp;omega))
   have kf:∀j o,j<3->wr.frozen? ⟨w.heap.size+j,o,none⟩=w3.frozen? ⟨w.heap.size+j,o,none⟩:=fun j o hj=>World.frozen?_of_block (hg.block _ (show w.heap.size+j<w3.heap.size by omega) (by simp;omega))
   have c0:wr.cell? ⟨w.heap.size,0,none⟩=some (.bool na):=(kp 0 0 (by omega)).trans C0.out
   have c2:wr.cell? ⟨w.heap.size+1,0,none⟩=some (.bool nb):=(kp 1 0 (by omega)).trans C2.out
   have c4:wr.cell? ⟨w.heap.size+2,0,none⟩=some (.bool false):=(kp 2 0 (by omega)).trans C4.out
   have c5:wr.cell? ⟨w.heap.size+2,1,none⟩=some (.slice none 0 0):=(kp 2 1 (by omega)).trans C5.out
   have f4:∀o,wr.frozen? ⟨w.heap.size+2,o,none⟩=false:=fun o=>(kf 2 o (by omega)).trans (F4.out o)
   have hzr:w.heap.size+3<=wr.heap.size:=by have:=hg.size;omega
   clear kp kf hrow hql hv' hown hd hv hz hg
   go_wp2_with fail
   refine (num_made (na != nb) o _ _ _ _ ROW.out HQ.out.symm).mono ?_
   rintro e w4 ⟨n',p',l',c',rfl,hnr,hnew,hx6⟩
   rw[MP.out] at hnr ⊢
   have hx7:Ext w w4:=Ext.step hx5 hx6
   obtain⟨_,⟨_,_,_⟩,⟨_,_,_⟩,_,_,_⟩:=keepK3 hx6 w.heap.size
   go_wp2_with fail
   refine bodyPost_ret (v:=.tuple #[.agg #[.bool n',.slice p' l' c'],.bool (mulP a b).2]) (by simp[results,Tryz.results70,go_sem, *]) rfl ?_
   exact⟨n',p',l',c',rfl,(by repeat (first|assumption|refine NR.set ?_ (by assumption) _ (by first|(simp;done)|(simp;omega)|omega) _|refine NR.alloc ?_ _)),hnew.mono (by omega),bxx⟩
theorem num_Mul(a b:Nm)(na nb:Bool)(pa pb:Option Addr)(la ca lb cb:Nat)(w:World)(ha:NR w na pa la ca a)(hb:NR w nb pb lb cb b) :
  Calls Tryz.prog 70 #[.agg #[.bool na,.slice pa la ca],.agg #[.bool nb,.slice pb lb cb]] w (RetNum w (mulP a b)):=by
 by_cases ra:a.right=true
 ·by_cases rb : b.right = true
  ·exact num_mul_main a b na nb pa pb la ca lb cb w ha hb ra rb
  ·have rb : b.right = false := by simpa using rb
   have S:=Lib.hid (mulP_right (a:=a) rb)
   go_enter Tryz.func70,Tryz.ntmps70
   go_wp2_with fail
   refine (num_Right a _ _ _ _ _ (ha.ext bxx)).mono ?_
   rintro e w1 ⟨rfl,hx⟩
   rw[ra]
   have hx0:Ext w w1:=Ext.step bxx hx
   obtain⟨_,⟨_,hk_w1_0,hf_w1_0⟩,⟨_,hk_w1_1,hf_w1_1⟩,_,hk_w1_2,hf_w1_2⟩:=keepK3 hx w.heap.size
   go_wp2_with fail
   refine (num_Right b _ _ _ _ _ (hb.ext bxx)).mono ?_
   rintro e w2 ⟨rfl,hx2⟩
   rw[rb]
   have hx1:Ext w w2:=Ext.step hx0 hx2
   obtain⟨hz_w2,⟨_,hk_w2_0,hf_w2_0⟩,⟨_,hk_w2_1,hf_w2_1⟩,_,hk_w2_2,hf_w2_2⟩:=keepK3 hx2 w.heap.size
   go_wp2_with fail
   refine bodyPost_ret (v:=.tuple #[.agg #[.bool false,.slice none 0 0],.bool false]) (by simp[results,Tryz.results70,go_sem, *]) rfl ?_
   rw[S.out]
   exact⟨false,none,0,0,rfl,⟨rfl,rfl,Row.nil _⟩,New.none _,bxx⟩
 ·have ra : a.right = false := by simpa using ra
  have S:=Lib.hid (mulP_left (b:=b) ra)
  go_enter Tryz.func70,Tryz.ntmps70
  go_wp2_with fail
  refine (num_Right a _ _ _ _ _ (ha.ext bxx)).mono ?_
  rintro e w1 ⟨rfl,hx⟩
  rw[ra]
  have hx0:Ext w w1:=Ext.step bxx hx
  obtain⟨_,⟨_,hk_w1_0,hf_w1_0⟩,⟨_,hk_w1_1,hf_w1_1⟩,_,hk_w1_2,hf_w1_2⟩:=keepK3 hx w.heap.size
  go_wp2_with fail
  refine bodyPost_ret (v:=.tuple #[.agg #[.bool false,.slice none 0 0],.bool false]) (by simp[results,Tryz.results70,go_sem, *]) rfl ?_
  rw[S.out]
  exact⟨false,none,0,0,rfl,⟨rfl,rfl,Row.nil _⟩,New.none _,bxx⟩
end

set_option maxHeartbeats 2000000
set_option maxRecDepth 100000
section
theorem or_mul(s x c:Nat)(i:Nat)(hs:s=2 ^ i)(hc:c<s):s*x ||| c=s*x+c:=by
 subst hs
 exact (Nat.two_pow_add_eq_or_of_lt hc x).symm
theorem enc_mid(o z:List Nat)(x y:Nat):(enc (o++y::z)).set o.length (.int .u32 (x:Int))=enc (o++[x]++z):=by
 simp[enc]
theorem num_shifted(a:List Nat)(pa:Option Addr)(la ca i:Nat)(w:World)(ha:Row w pa ca a)(hla:la=a.length)(hi:i<32)(h64:a.length<=1000) :
  Calls Tryz.prog 123 #[.slice pa la ca,.int .i64 (i:Int)] w fun e w'=>∃o,o.length=a.length+1/\Dig o/\val o=2 ^ i*val a/\e=.returned (.slice (some ⟨w.heap.size,0,none⟩) (a.length+1) (a.length+1)) /\
   w'.ownsRow w.heap.size 113 1 (.slice (some ⟨w.heap.size,0,none⟩) (a.length+1) (a.length+1)) (a.length+1) (enc o)/\Ext w w':=by
 subst hla
 obtain⟨ii,hii,hz0,hz1,hz2⟩:=info_parts info32
 have hla:=ha.le
 have hma:=ha.max
 have hse:2 ^ i*2 ^ (32-i)=4294967296:=by rw[<- Nat.pow_add,show i+(32-i)=32 by omega]
 obtain⟨n1,N1⟩:∃n1,n1=a.length+1:=⟨_,rfl⟩
 have eN:(a.length:Int)+1=(n1:Int):=by omega
 rw[<- N1]
 have HN1:=Lib.hid N1
 have hn1:n1<=1001:=by omega
 have hn2:a.length<n1:=by omega
 have hn3:n1<=a.length+1:=by omega
 clear N1
 go_enter Tryz.func123,Tryz.ntmps123
 go_wp2_with (at_make;refine wpList_make_full _ rfl _ _ 30 rfl w.heap.size 113 ii (.int .u32 0) 1 Tryz.underlying30 hii hz0 hz1 _ _ _ _ n1 rfl rfl (by omega) (by omega) (by rw[hz2];omega) (by unfold maxLen;omega) (Nat.le_refl _) ?_)
 all_goals
  intro w1 hown hgr
  rw[show (madeCells #[Value.int IntKind.u32 0] n1).toList=enc ([]++List.replicate n1 0) from by rw[enc,List.nil_append,List.map_replicate];exact toList_madeCells_one _ _] at hown
  have hx0:Ext w w1:=⟨hgr.os,hgr.tape,hgr.output,hgr.size,fun k hk=>hgr.block k hk (by simp)⟩
  clear hgr
  go_wp2_with fail
  go_loopw [6,15] (fun cr k wr=>∃(o:List Nat) (c:Nat),o.length<=a.length/\k=.int .i64 (o.length:Int)/\cr=.int .u32 (c:Int)/\ShInv (2 ^ i) a o c/\wr.ownsRow w.heap.size 113 1 (.slice (some ⟨w.heap.size,0,none⟩) n1 n1) n1 (enc (o++List.replicate (n1-o.length) 0))/\Ext w wr) (fun _ k _=>a.length-(intOf k).toNat)
  case atStart=>exact⟨[],0,Nat.zero_le _,rfl,rfl,⟨Dig.nil,Nat.pow_pos (by omega),by simp[val]⟩,hown,hx0⟩
  case round =>
   clear hown hx0
   obtain⟨o,c,ho,rfl,rfl,hinv,hown,hx⟩:=hrel
   by_cases hlt:o.length<a.length
   ·obtain ⟨ba, oa, rfl, hba, hca⟩ := (ha.ext hx).at (by omega)
    have hc1:=hca o.length hlt
    have hxd:=ha.dig.getD o.length
    rw[List.getD_eq_getElem?_getD] at hxd
    have STEP:=sh_step hse hinv (d:=a[o.length]?.getD 0) rfl hxd
    obtain⟨x,X⟩:∃x,Hid (a[o.length]?.getD 0=x):=⟨_,rfl⟩
    rw[X.out] at hc1 hxd STEP
    have hcd:=hinv.2.1
    clear hca
    have hcw:wr.cell? ⟨w.heap.size,o.length,none⟩=some (.int .u32 0):=by
     rw[hown.cellAt o.length (by omega)]
     rw[enc_get _ _ (by simp;omega)]
     rw[List.getElem?_append_right (by omega),Nat.sub_self,List.getElem?_replicate,if_pos (by omega)]
     rfl
    have hfw:=hown.frozenAt o.length
    have OR:bits .or .u32 ((x:Int)*2 ^ i%4294967296) (c:Int)=((x%2 ^ (32-i)*2 ^ i+c:Nat):Int):=by
     have e1:(x:Int)*2 ^ i%4294967296=((x%2 ^ (32-i)*2 ^ i:Nat):Int):=by
      have h2:x*2 ^ i%4294967296=x%2 ^ (32-i)*2 ^ i:=by
       rw[<- hse,Nat.mul_comm x,Nat.mul_mod_mul_left,Nat.mul_comm]
      have hp:(2:Int) ^ i=((2 ^ i:Nat):Int):=(Int.natCast_pow 2 i).symm
      rw[<- h2,hp,<- Int.natCast_mul]
      generalize x*2 ^ i=t
      omega
     rw[e1,u32_or_nat _ _ (by omega) (by omega),Nat.mul_comm (x%2 ^ (32-i)),or_mul _ _ _ _ rfl hcd]
    have DV:(x:Int)/2 ^ (32-i)%4294967296=((x/2 ^ (32-i):Nat):Int):=by
     have h2:x/2 ^ (32-i)<4294967296:=Nat.lt_of_le_of_lt (Nat.div_le_self _ _) hxd
     have hp:(2:Int) ^ (32-i)=((2 ^ (32-i):Nat):Int):=(Int.natCast_pow 2 (32-i)).symm
     have e3:(x:Int)/2 ^ (32-i)=((x/2 ^ (32-i):Nat):Int):=by rw[hp];rfl
     rw[e3]
     generalize x/2 ^ (32-i)=t at *
     omega
    obtain⟨S1,S2⟩:=STEP
    obtain⟨hown3,hg3⟩:=hown.stored o.length (.int .u32 ((x%2 ^ (32-i)*2 ^ i+c:Nat):Int))
    rw[replicate_pred _ (show 0<n1-o.length by omega),enc_mid,List.append_assoc] at hown3
    obtain⟨y,Y⟩:∃y,Hid (x%2 ^ (32-i)*2 ^ i+c=y):=⟨_,rfl⟩
    obtain⟨c',C'⟩:∃c',Hid (x/2 ^ (32-i)=c'):=⟨_,rfl⟩
    rw[Y.out] at OR S1 S2 hown3
    rw[C'.out] at DV S1
    have OWN:=Lib.hid hown3
    have INV:=Lib.hid S1
    have hx3:Ext w (wr.setCell ⟨w.heap.size,o.length,none⟩ (.int .u32 (y:Int))):=Below.setCell hx (Nat.le_refl _) _
    have X3:=Lib.hid hx3
    clear hown hown3 hg3 hx3 S1 hinv hx
    go_wp2
    refine⟨⟨o++[y],c',by simp;omega,by simp,by rw[DV],INV.out,?_,X3.out⟩,by simp[intOf];omega⟩
    rw[List.length_append,List.length_singleton,List.append_assoc,Nat.sub_add_eq]
    exact OWN.out
   ·have hol : o.length = a.length := by omega
    have hn4:n1-o.length=1:=by have:=HN1.out;omega
    have END:=Lib.hid (sh_end hinv hol)
    have hcd:=hinv.2.1
    have hp:2 ^ i<=2147483648:=by
     have:2 ^ i<=2 ^ 31:=Nat.pow_le_pow_right (by omega) (by omega)
     omega
    rw[hn4] at hown
    have hcw:wr.cell? ⟨w.heap.size,a.length,none⟩=some (.int .u32 0):=by
     rw[hown.cellAt a.length (by omega)]
     rw[enc_get _ _ (by simp;omega)]
     rw[List.getElem?_append_right (by omega),hol,Nat.sub_self]
     rfl
    have hfw:=hown.frozenAt a.length
    obtain⟨hown3,hg3⟩:=hown.stored a.length (.int .u32 (c:Int))
    rw[<- hol,show o++List.replicate 1 0=o++0::[] from rfl,enc_mid,List.append_nil,hol] at hown3
    have OWN:=Lib.hid hown3
    have hx3:Ext w (wr.setCell ⟨w.heap.size,a.length,none⟩ (.int .u32 (c:Int))):=Below.setCell hx (Nat.le_refl _) _
    have X3:=Lib.hid hx3
    have DO:=Lib.hid hinv.1
    clear hown hown3 hg3 hx3 hinv hx
    rw[hol]
    go_wp2
    go_ret
    exact⟨o++[c],by rw[List.length_append,List.length_singleton,hol];exact HN1.out.symm,DO.out.append (Dig.cons (by omega) Dig.nil),END.out,rfl,OWN.out,X3.out⟩
end

set_option maxHeartbeats 4000000
set_option maxRecDepth 100000
section
theorem getD_val(d:List Nat)(n:Nat):val (d.take (n+1))=val (d.take n)+4294967296 ^ n*(d[n]?.getD 0):=val_take_K d n
theorem guess_nums{u v:List Nat}{m:Nat}(hu:u.length=m+3)(hv:v.length=m+2)(du:Dig u)(dv:Dig v) :
  val u=val (u.take m)+4294967296 ^ m*(u[m]?.getD 0+4294967296*(u[m+1]?.getD 0+4294967296*(u[m+2]?.getD 0)))/\val (u.take m)<4294967296 ^ m /\
  val v=val (v.take m)+4294967296 ^ m*(v[m]?.getD 0+4294967296*(v[m+1]?.getD 0))/\val (v.take m)<4294967296 ^ m:=by
 have h1:=val_lt (du.take m)
 have h2:=val_lt (dv.take m)
 rw[List.length_take,Nat.min_eq_left (by omega)] at h1 h2
 refine⟨?_,h1,?_,h2⟩
 ·have e0 := getD_val u m
  have e1:=getD_val u (m+1)
  have e2:=getD_val u (m+2)
  have ep:(4294967296:Nat) ^ (m+1)=4294967296 ^ m*4294967296:=Nat.pow_succ _ _
  have ep2:(4294967296:Nat) ^ (m+2)=4294967296 ^ m*4294967296*4294967296:=by rw[Nat.pow_succ,ep]
  rw[List.take_of_length_le (by omega),e1,e0,ep,ep2] at e2
  rw[e2]
  generalize 4294967296 ^ m=P
  grind
 ·have e0 := getD_val v m
  have e1:=getD_val v (m+1)
  have ep:(4294967296:Nat) ^ (m+1)=4294967296 ^ m*4294967296:=Nat.pow_succ _ _
  rw[List.take_of_length_le (by omega),e0,ep] at e1
  rw[e1]
  generalize 4294967296 ^ m=P
  grind
theorem num_guess(u v:List Nat)(pu pv:Option Addr)(cu cv m:Nat)(w:World)(hu:Row w pu cu u)(hv:Row w pv cv v)(hul:u.length=m+3)(hvl:v.length=m+2)(hm:m<=1000)
  (ht:0<v[m+1]?.getD 0) (hlt:val u<4294967296*val v) :
  Calls Tryz.prog 125 #[.slice pu (m+3) cu,.slice pv (m+2) cv] w fun e w'=>∃q:Nat,e=.returned (.int .u64 (q:Int))/\q<4294967296/\val u/val v<=q/\q<=val u/val v+1/\Ext w w':=by
 obtain⟨eU,hw0,eV,hv0⟩:=guess_nums hul hvl hu.dig hv.dig
 have lu0:=hu.le
 have lu1:=hu.max
 have lv0:=hv.le
 have lv1:=hv.max
 obtain⟨bu,ou,rfl,hbu,hcu⟩:=hu.at (by omega)
 obtain⟨bv,ov,rfl,hbv,hcv⟩:=hv.at (by omega)
 have c0:=hcu m (by omega)
 have c1:=hcu (m+1) (by omega)
 have c2:=hcu (m+2) (by omega)
 have k0:=hcv m (by omega)
 have k1:=hcv (m+1) (by omega)
 have d0:=hu.dig.getD m
 have d1:=hu.dig.getD (m+1)
 have d2:=hu.dig.getD (m+2)
 have f0:=hv.dig.getD m
 have f1:=hv.dig.getD (m+1)
 rw[List.getD_eq_getElem?_getD] at d0 d1 d2 f0 f1
 obtain⟨u2,U2⟩:∃x,Hid (u[m]?.getD 0=x):=⟨_,rfl⟩
 obtain⟨u1,U1⟩:∃x,Hid (u[m+1]?.getD 0=x):=⟨_,rfl⟩
 obtain⟨ut,UT⟩:∃x,Hid (u[m+2]?.getD 0=x):=⟨_,rfl⟩
 obtain⟨v2,V2⟩:∃x,Hid (v[m]?.getD 0=x):=⟨_,rfl⟩
 obtain⟨v1,V1⟩:∃x,Hid (v[m+1]?.getD 0=x):=⟨_,rfl⟩
 rw[U2.out] at c0 d0 eU
 rw[U1.out] at c1 d1 eU
 rw[UT.out] at c2 d2 eU
 rw[V2.out] at k0 f0 eV
 rw[V1.out] at k1 f1 eV ht
 obtain⟨U,HU⟩:∃x,Hid (val u=x):=⟨_,rfl⟩
 obtain⟨V,HV⟩:∃x,Hid (val v=x):=⟨_,rfl⟩
 obtain⟨w0,W0⟩:∃x,Hid (val (u.take m)=x):=⟨_,rfl⟩
 obtain⟨v0,V0⟩:∃x,Hid (val (v.take m)=x):=⟨_,rfl⟩
 obtain⟨P,HP⟩:∃x:Nat,Hid ((4294967296:Nat) ^ m=x):=⟨_,rfl⟩
 rw[HU.out,W0.out,HP.out] at eU
 rw[HV.out,V0.out,HP.out] at eV
 rw[HU.out,HV.out] at hlt ⊢
 rw[W0.out,HP.out] at hw0
 rw[V0.out,HP.out] at hv0
 have DEC:=Lib.hid (fun q r (hq:q*v1+r=u1+4294967296*ut) (hle:U/V<=q) h=>guess_dec (r:=r) hw0 eU eV hlt hq hle h)
 have END:=Lib.hid (fun q r (hq:q*v1+r=u1+4294967296*ut) h=>guess_end (r:=r) hv0 ht f0 hw0 d1 eU eV hlt hq h)
 have hP:0<P:=by omega
 have START:Hid (U/V<=(u1+4294967296*ut)/v1):=by
  refine guess_start (w:=w0+P*u2) (P:=P*4294967296) (vr:=v0+P*v2) ?_ ?_ ?_ ht
  ·have h9 : P * (u2 + 1) <= P * 4294967296 := Nat.mul_le_mul_left P d0
   have e9:P*(u2+1)=P*u2+P:=by grind
   omega
  ·rw[eU];grind
  ·rw[eV];grind
 have hv1:((v1:Int)==0)=false:=by rw[beq_eq_false_iff_ne];omega
 have OH:=or_u64 ut u1 d2 d1
 obtain⟨high,HH⟩:∃x,Hid (u1+4294967296*ut=x):=⟨_,rfl⟩
 rw[show ut*4294967296+u1=u1+4294967296*ut by omega,HH.out] at OH
 rw[HH.out] at START DEC END
 have hhigh:high<18446744073709551616:=by have:=HH.out;omega
 have DQ:=tdiv_nat high v1
 have DR:=tmod_nat high v1
 have hr0:high%v1<v1:=Nat.mod_lt _ ht
 have hq0:high/v1<=high:=Nat.div_le_self _ _
 have hqr:high/v1*v1+high%v1=high:=by rw[Nat.mul_comm];exact Nat.div_add_mod _ _
 obtain⟨q0,Q0⟩:∃x,Hid (high/v1=x):=⟨_,rfl⟩
 obtain⟨r0,R0⟩:∃x,Hid (high%v1=x):=⟨_,rfl⟩
 rw[Q0.out] at DQ hq0 hqr START
 rw[R0.out] at DR hr0 hqr
 have QR:=Lib.hid hqr
 clear hqr hcu hcv hlt eU eV hw0 hv0 hP hu hv hul hvl
 go_enter Tryz.func125,Tryz.ntmps125
 go_upto_region 2 with (fail)
 go_quiet (fail)
 go_upto_region 3 with (fail)
 go_quiet (fail)
 go_wp2_with fail
 go_loopw [7,8] (fun qs rs wr=>∃(q r:Nat),qs=.int .u64 (q:Int)/\rs=.int .u64 (r:Int)/\q*v1+r=high/\U/V<=q/\q<=q0/\r<8589934592/\Ext w wr) (fun qs _ _=>(intOf qs).toNat)
 case atStart=>exact⟨q0,r0,rfl,rfl,QR.out,START.out,Nat.le_refl _,by omega,bxx⟩
 case round =>
  obtain⟨q,r,rfl,rfl,hqr,hle,hq,hr,hx⟩:=hrel
  have kc0:=(hx.cell (p:=⟨bu,ou+m,none⟩) hbu).trans c0
  have kk0:=(hx.cell (p:=⟨bv,ov+m,none⟩) hbv).trans k0
  have kk1:=(hx.cell (p:=⟨bv,ov+(m+1),none⟩) hbv).trans k1
  have QR2:=Lib.hid hqr
  have LE:=Lib.hid hle
  have HX:=Lib.hid hx
  clear hqr hle hx c0 c1 c2 k0 k1
  by_cases h1:4294967296<=r
  ·have E1 : ((r : Int) / 4294967296 == 0) = false := by rw [beq_eq_false_iff_ne]; omega
   obtain⟨z1,z2⟩:=END.out q r QR2.out (.inl h1)
   go_upto_region 4 with (fail)
   go_quiet (fail)
   go_wp2
   go_ret
   exact⟨q,rfl,z1,LE.out,z2,by have:=HX.out;exact bxx⟩
  ·have h1' : r < 4294967296 := by omega
   have E1:((r:Int)/4294967296==0)=true:=by rw[beq_iff_eq];omega
   have OR:=or_u64 r u2 h1' d0
   obtain⟨s,HS⟩:∃x,Hid (r*4294967296+u2=x):=⟨_,rfl⟩
   rw[HS.out] at OR
   have hv1b:r+v1<8589934592:=by omega
   have hqb:q<18446744073709551616:=by omega
   by_cases h2:4294967296<=q
   ·have E2 : decide (0 < (q : Int) / 4294967296) = true := by rw [decide_eq_true_eq]; omega
    have hq1:1<=q:=by omega
    obtain⟨z1,z2⟩:=DEC.out q r QR2.out LE.out (.inl h2)
    have NX:=Lib.hid (show (q-1)*v1+(r+v1)=high by
     obtain⟨p,rfl⟩:∃p,q=p+1:=⟨q-1,by omega⟩
     have:=QR2.out
     rw[Nat.add_sub_cancel]
     have e:(p+1)*v1=p*v1+v1:=by grind
     omega)
    have LE2:=Lib.hid z2
    clear z2
    go_upto_region 4 with (fail)
    go_quiet (fail)
    go_wp2
    refine⟨⟨q-1,r+v1,by rw[Int.natCast_sub hq1];rfl,by push_cast;rfl,NX.out,LE2.out,by omega,hv1b,by have:=HX.out;exact bxx⟩,by simp[intOf];omega⟩
   ·have E2 : decide (0 < (q : Int) / 4294967296) = false := by rw [decide_eq_false_iff_not]; omega
    have hqv:q*v2<=4294967295*4294967295:=Nat.mul_le_mul (by omega) (by omega)
    have QV:(q:Int)*(v2:Int)=((q*v2:Nat):Int):=by push_cast;rfl
    have hsb:s<18446744073709551616:=by have:=HS.out;omega
    by_cases h3:r*4294967296+u2<q*v2
    ·obtain ⟨z1, z2⟩ := DEC.out q r QR2.out LE.out (.inr h3)
     rw[HS.out] at h3
     obtain⟨tt,HT⟩:∃x,Hid (q*v2=x):=⟨_,rfl⟩
     rw[HT.out] at h3 QV hqv
     have E3:decide ((s:Int)<(tt:Int))=true:=by rw[decide_eq_true_eq];omega
     have hq1:=z1
     have NX:=Lib.hid (show (q-1)*v1+(r+v1)=high by
      obtain⟨p,rfl⟩:∃p,q=p+1:=⟨q-1,by omega⟩
      have:=QR2.out
      rw[Nat.add_sub_cancel]
      have e:(p+1)*v1=p*v1+v1:=by grind
      omega)
     have LE2:=Lib.hid z2
     clear z2
     go_upto_region 4 with (fail)
     go_quiet (fail)
     go_wp2
     refine⟨⟨q-1,r+v1,by rw[Int.natCast_sub hq1];rfl,by push_cast;rfl,NX.out,LE2.out,by omega,hv1b,by have:=HX.out;exact bxx⟩,by simp[intOf];omega⟩
    ·obtain ⟨z1, z2⟩ := END.out q r QR2.out (.inr ⟨by omega, by omega⟩)
     rw[HS.out] at h3
     obtain⟨tt,HT⟩:∃x,Hid (q*v2=x):=⟨_,rfl⟩
     rw[HT.out] at h3 QV hqv
     have E3:decide ((s:Int)<(tt:Int))=false:=by rw[decide_eq_false_iff_not];omega
     go_upto_region 4 with (fail)
     go_quiet (fail)
     go_wp2
     go_ret
     exact⟨q,rfl,z1,LE.out,z2,by have:=HX.out;exact bxx⟩
end

set_option maxHeartbeats 8000000
set_option maxRecDepth 100000
section
theorem own_at{w:World}{B e g N c:Nat}{pre o z:List Nat}{x i:Nat}(h:w.ownsRow B e 1 (.slice (some ⟨g,0,none⟩) N c) N (enc (pre++(o++x::z))))(hi:i=pre.length+o.length):w.cell? ⟨g,i,none⟩=some (.int .u32 (x:Int)):=by
 have hl:=own_len h
 subst hi
 simp only[List.length_append,List.length_cons] at hl
 rw[h.cellAt _ (by omega),enc_get _ _ (by simp),<- List.append_assoc,List.getElem?_append_right (by simp)]
 simp
theorem own_put{w:World}{B e g N c:Nat}{pre o z:List Nat}{x i:Nat}(h:w.ownsRow B e 1 (.slice (some ⟨g,0,none⟩) N c) N (enc (pre++(o++x::z))))(hi:i=pre.length+o.length)(y:Nat) :
  (w.setCell ⟨g,i,none⟩ (.int .u32 (y:Int))).ownsRow B e 1 (.slice (some ⟨g,0,none⟩) N c) N (enc (pre++((o++[y])++z))):=by
 subst hi
 obtain⟨h3,_⟩:=h.stored (pre.length+o.length) (.int .u32 (y:Int))
 have e:(enc (pre++(o++x::z))).set (pre.length+o.length) (.int .u32 (y:Int))=enc (pre++((o++[y])++z)):=by
  have:=enc_mid (pre++o) z y x
  rw[List.length_append,List.append_assoc,List.append_assoc,List.append_assoc] at this
  rw[this,List.append_assoc]
 rw[e] at h3
 exact h3
theorem drop_at{d:List Nat}{k:Nat}(h:k<d.length):d.drop k=d[k]?.getD 0::d.drop (k+1):=by rw[List.drop_eq_getElem_cons h,getD_eq h]
theorem and_low(t:Nat)(ht:t<18446744073709551616):bits .and .u64 (t:Int) 4294967295=((t%4294967296:Nat):Int):=by
 have:=u64_and_nat t 4294967295 ht (by omega)
 rw[show ((4294967295:Nat):Int)=4294967295 from rfl] at this
 rw[this,show (4294967295:Nat)=2 ^ 32-1 from rfl,Nat.and_two_pow_sub_one_eq_mod]
theorem u64w(n:Int):IntKind.u64.wrap n=n%18446744073709551616:=by simp[IntKind.wrap,IntKind.signed,IntKind.bits]
theorem minus_two(x a b:Nat)(hx:x<4294967296)(ha:a<4294967296)(hb:b<=1):∃y1 y2:Nat,IntKind.u64.wrap ((x:Int)-(a:Int))=(y1:Int)/\IntKind.u64.wrap ((y1:Int)-(b:Int))=(y2:Int) /\
  (y2:Int)%4294967296=(((x+8589934592-a-b)%4294967296:Nat):Int)/\(y2:Int)/9223372036854775808=((if x<a+b then 1 else 0:Nat):Int)/\(a+b<=x->y2=x-a-b):=by
 refine⟨if a<=x then x-a else x+18446744073709551616-a,if a+b<=x then x-a-b else x+18446744073709551616-a-b,?_,?_,?_,?_,?_⟩
 ·rw[u64w];split<;>omega
 ·rw[u64w];split<;>split<;>omega
 ·split<;>omega
 ·split<;>split<;>omega
 ·intro h;rw[if_pos h]
theorem num_reduce(pre part post v:List Nat)(g K N n cu cv B q:Nat)(pv:Option Addr)(w:World)(hown:w.ownsRow B 113 1 (.slice (some ⟨g,0,none⟩) N N) N (enc (pre++(part++post))))(hK:pre.length=K)(hp:part.length=n+1)(hvl:v.length=n)
  (hv:Row w pv cv v) (hne:∀x,pv=some x->x.block≠g) (dp:Dig part) (hn:0<n) (hn2:n<=1000) (hcu:n+1<=cu) (hcu2:cu<=9223372036854775807) (hV:0<val v) (hq:q<4294967296) (hq1:val part/val v<=q) (hq2:q<=val part/val v+1) :
  Calls Tryz.prog 124 #[.slice (some ⟨g,K,none⟩) (n+1) cu,.slice pv n cv,.int .u64 (q:Int)] w fun e w' =>
   ∃part':List Nat,part'.length=n+1/\Dig part'/\val part'=val part%val v/\e=.returned (.int .u32 ((val part/val v:Nat):Int)) /\
    w'.ownsRow B 113 1 (.slice (some ⟨g,0,none⟩) N N) N (enc (pre++(part'++post)))/\w.grownBy w' (some g):=by
 have lv0:=hv.le
 have lv1:=hv.max
 have hgw:g<w.heap.size:=(hown.lt g rfl).2
 have DV:=Lib.hid hv.dig
 have DP:=Lib.hid dp
 have HV:=Lib.hid hv
 have HNE:=Lib.hid hne
 have HPL:=Lib.hid hp
 have HVL:=Lib.hid hvl
 clear hv hne dp
 have hown0:w.ownsRow B 113 1 (.slice (some ⟨g,0,none⟩) N N) N (enc (pre++([]++(part.drop 0++post)))):=by rw[List.drop_zero];exact hown
 go_enter Tryz.func124,Tryz.ntmps124
 go_wp2_with fail
 go_loopw [7,8,17] (fun cs bs k wr=>∃(o:List Nat) (c b:Nat),o.length<=n/\cs=.int .u64 (c:Int)/\bs=.int .u64 (b:Int)/\k=.int .i64 (o.length:Int)/\RedInv q part v o c b/\wr.ownsRow B 113 1 (.slice (some ⟨g,0,none⟩) N N) N (enc (pre++(o++(part.drop o.length++post))))/\w.grownBy wr (some g)) (fun _ _ k _=>n-(intOf k).toNat)
 case atStart=>exact⟨[],0,0,Nat.zero_le _,rfl,rfl,rfl,⟨Dig.nil,Nat.zero_le _,Nat.zero_le _,by simp[val]⟩,hown0,⟨rfl,rfl,rfl,Nat.le_refl _,fun _ _ _=>rfl⟩⟩
 case round =>
  clear hown hown0
  obtain⟨o,c,b,ho,rfl,rfl,rfl,hinv,hown,hgr⟩:=hrel
  by_cases hlt:o.length<n
  ·have hvr := HV.out.grown (fun _ => HNE.out) hgr
   obtain⟨bv,ov,rfl,hbv,hcv⟩:=hvr.at (by omega)
   have hc1:=hcv o.length (by omega)
   have hdd:=DV.out.getD o.length
   have hxx:=DP.out.getD o.length
   rw[List.getD_eq_getElem?_getD] at hdd hxx
   rw[drop_at (show o.length<part.length by omega),List.cons_append] at hown
   obtain⟨d,D⟩:∃x,Hid (v[o.length]?.getD 0=x):=⟨_,rfl⟩
   obtain⟨x,X⟩:∃x,Hid (part[o.length]?.getD 0=x):=⟨_,rfl⟩
   rw[D.out] at hc1 hdd
   rw[X.out] at hown hxx
   have hcx:=own_at (i:=K+o.length) hown (by omega)
   have hfx:=hown.frozenAt (K+o.length)
   obtain⟨STEP,hT⟩:=red_step hq hinv X.out D.out hdd hxx
   have hc:=hinv.2.1
   have hb:=hinv.2.2.1
   have QD:(q:Int)*(d:Int)=((q*d:Nat):Int):=by push_cast;rfl
   obtain⟨t,T⟩:∃t,Hid (q*d=t):=⟨_,rfl⟩
   rw[T.out] at QD STEP hT
   have CT:(c:Int)+(t:Int)=((c+t:Nat):Int):=by omega
   obtain⟨u,HU⟩:∃u,Hid (c+t=u):=⟨_,rfl⟩
   rw[HU.out] at CT STEP hT
   have htu:t<18446744073709551616:=by have:=HU.out;omega
   have AN:=and_low u hT
   have hlo:u%4294967296<4294967296:=Nat.mod_lt _ (by omega)
   obtain⟨lo,LO⟩:∃lo,Hid (u%4294967296=lo):=⟨_,rfl⟩
   rw[LO.out] at AN STEP hlo
   obtain⟨y1,y2,M1,M2,M3,M4,_⟩:=minus_two x lo b hxx hlo hb
   obtain⟨y,Y⟩:∃y,Hid ((x+8589934592-lo-b)%4294967296=y):=⟨_,rfl⟩
   obtain⟨b',B'⟩:∃b':Nat,Hid ((if x<lo+b then (1:Nat) else 0)=b'):=⟨_,rfl⟩
   rw[Y.out] at M3 STEP
   rw[B'.out] at M4 STEP
   obtain⟨c',C'⟩:∃c',Hid (u/4294967296=c'):=⟨_,rfl⟩
   rw[C'.out] at STEP
   have UC:(u:Int)/4294967296=(c':Int):=by have:=C'.out;omega
   have OWN:=Lib.hid (own_put (i:=K+o.length) hown (by omega) y)
   have G3:=Lib.hid (grownBy_trans hgr (grownBy_setCell wr ⟨g,K+o.length,none⟩ (.int .u32 (y:Int))))
   have SS:=Lib.hid STEP
   clear hown hgr hvr hcv STEP hinv
   go_wp2
   refine⟨⟨o++[y],c',b',by rw[List.length_append,List.length_singleton];omega,rfl,rfl,by rw[List.length_append,List.length_singleton];push_cast;rfl,SS.out,?_,G3.out⟩,by simp[intOf];omega⟩
   rw[List.length_append,List.length_singleton]
   exact OWN.out
  ·have hol : o.length = n := by omega
   have hpl:part.length=n+1:=HPL.out
   rw[hol,drop_at (show n<part.length by omega),List.drop_of_length_le (show part.length<=n+1 by omega),List.cons_append,List.nil_append] at hown
   have hxx:=DP.out.getD n
   rw[List.getD_eq_getElem?_getD] at hxx
   obtain⟨x,X⟩:∃x,Hid (part[n]?.getD 0=x):=⟨_,rfl⟩
   rw[X.out] at hown hxx
   have hcx:=own_at (i:=K+n) hown (by omega)
   have hfx:=hown.frozenAt (K+n)
   have hc:=hinv.2.1
   have hb:=hinv.2.2.1
   obtain⟨y1,y2,M1,M2,M3,M4,M5⟩:=minus_two x c b hxx (by omega) hb
   by_cases hle:c+b<=x
   ·
    have hy2:=M5 hle
    have E:=red_keep (x:=x) hinv (hol.trans HVL.out.symm) (by rw[HVL.out];exact hpl) (by rw[HVL.out];exact X.out) hle
    obtain⟨Q1,Q2⟩:=quot_of hV E hq1
    have hyb:x-c-b<4294967296:=by omega
    have hD:=hinv.1.append (Dig.cons hyb Dig.nil)
    rw[<- hy2] at Q2 hyb hD
    have R3:(y2:Int)%4294967296=(y2:Int):=by omega
    have R4:(y2:Int)/9223372036854775808=0:=by omega
    have R5:(q:Int)%4294967296=(q:Int):=by omega
    have OWN:=Lib.hid (own_put (i:=K+n) hown (by omega) y2)
    have G3:=Lib.hid (grownBy_trans hgr (grownBy_setCell wr ⟨g,K+n,none⟩ (.int .u32 (y2:Int))))
    have HQ1:=Lib.hid Q1
    have HQ2:=Lib.hid Q2
    have HD:=Lib.hid hD
    clear hown hgr hinv M3 M4 M5 E Q1 Q2 hD hy2
    go_wp2
    go_ret
    refine⟨o++[y2],by rw[List.length_append,List.length_singleton,hol],HD.out,HQ2.out,by rw[<- HQ1.out];rfl,?_,G3.out⟩
    have:=OWN.out
    exact this
   ·have E := red_borrow (x := x) hinv hq (hol.trans HVL.out.symm) (by rw [HVL.out]; exact hpl) (by rw [HVL.out]; exact X.out) (by omega)
    have hye:(x+8589934592-c-b)%4294967296=x+4294967296-c-b:=by omega
    obtain⟨y,Y⟩:∃y,Hid (x+4294967296-c-b=y):=⟨_,rfl⟩
    rw[hye,Y.out] at M3
    rw[Y.out] at E
    have hyb:y<4294967296:=by have:=Y.out;omega
    rw[if_pos (show x<c+b by omega)] at M4
    have R4:(y2:Int)/9223372036854775808=1:=M4
    have DO:=Lib.hid hinv.1
    have EE:=Lib.hid E
    have hown1:=own_put (i:=K+n) hown (by omega) y
    have OWN:=Lib.hid hown1
    have G3:=Lib.hid (grownBy_trans hgr (grownBy_setCell wr ⟨g,K+n,none⟩ (.int .u32 (y:Int))))
    clear hown hown1 hgr hinv M4 M5 E hye
    have hob:(o++[y]).length=n+1:=by rw[List.length_append,List.length_singleton,hol]
    have hown0:(wr.setCell ⟨g,K+n,none⟩ (.int .u32 (y:Int))).ownsRow B 113 1 (.slice (some ⟨g,0,none⟩) N N) N (enc (pre++([]++((o++[y]).drop 0++post)))):=OWN.out
    have HOB:=Lib.hid hob
    have HOL:=Lib.hid hol
    have DOY:=Lib.hid (DO.out.append (Dig.cons hyb Dig.nil))
    have OY:=Lib.hid (show (o++[y])[n]?.getD 0=y by rw[List.getElem?_append_right (by omega),hol,Nat.sub_self];rfl)
    obtain⟨u,HU⟩:∃u,Hid (o++[y]=u):=⟨_,rfl⟩
    rw[HU.out] at hown0 hob DOY OY
    have wn1:wr.cell? ⟨g,K+n,none⟩=some (.int .u32 (x:Int)):=hcx
    clear hol hob
    go_wp2_with fail
    go_loopw [7,71] (fun cs k w1=>∃(p:List Nat) (s:Nat),p.length<=n/\cs=.int .u64 (s:Int)/\k=.int .i64 (p.length:Int)/\sumInv u v p s/\w1.ownsRow B 113 1 (.slice (some ⟨g,0,none⟩) N N) N (enc (pre++(p++(u.drop p.length++post))))/\w.grownBy w1 (some g)) (fun _ k _=>n-(intOf k).toNat)
    case atStart=>exact⟨[],0,Nat.zero_le _,rfl,rfl,⟨Dig.nil,by omega,by simp[val]⟩,hown0,G3.out⟩
    case round =>
     clear hown0 G3 wn1 hcx hfx OWN
     obtain⟨p,s,hp,rfl,rfl,hinv,hown,hgr⟩:=hrel
     by_cases hlt2:p.length<n
     ·have hvr := HV.out.grown (fun _ => HNE.out) hgr
      obtain⟨bv,ov,rfl,hbv,hcv⟩:=hvr.at (by omega)
      have hc1:=hcv p.length (by omega)
      have hdd:=DV.out.getD p.length
      have hzz:=DOY.out.getD p.length
      rw[List.getD_eq_getElem?_getD] at hdd hzz
      rw[drop_at (show p.length<u.length by rw[<- HU.out,HOB.out];omega),List.cons_append] at hown
      have STEP:=sumInv_step DOY.out DV.out hinv
      have hs:=hinv.2.1
      obtain⟨d,D⟩:∃x,Hid (v[p.length]?.getD 0=x):=⟨_,rfl⟩
      obtain⟨z,Z⟩:∃x,Hid (u[p.length]?.getD 0=x):=⟨_,rfl⟩
      rw[D.out] at hc1 hdd STEP
      rw[Z.out] at hown hzz STEP
      have hcx:=own_at (i:=K+p.length) hown (by omega)
      have hfx:=hown.frozenAt (K+p.length)
      obtain⟨e,E1⟩:∃e,Hid ((s+(z+d))%4294967296=e):=⟨_,rfl⟩
      obtain⟨s',S1⟩:∃s',Hid ((s+(z+d))/4294967296=s'):=⟨_,rfl⟩
      rw[E1.out,S1.out] at STEP
      have R1:((s:Int)+((z:Int)+(d:Int)))%4294967296=(e:Int):=by have:=E1.out;omega
      have R2:((s:Int)+((z:Int)+(d:Int)))/4294967296=(s':Int):=by have:=S1.out;omega
      have OWN:=Lib.hid (own_put (i:=K+p.length) hown (by omega) e)
      have G4:=Lib.hid (grownBy_trans hgr (grownBy_setCell _ ⟨g,K+p.length,none⟩ (.int .u32 (e:Int))))
      have SS:=Lib.hid STEP
      clear hown hgr hvr hcv STEP hinv
      go_wp2
      refine⟨⟨p++[e],s',by rw[List.length_append,List.length_singleton];omega,rfl,by rw[List.length_append,List.length_singleton];push_cast;rfl,SS.out,?_,G4.out⟩,by simp[intOf];omega⟩
      rw[List.length_append,List.length_singleton]
      exact OWN.out
     ·have hpn : p.length = n := by omega
      have hul:u.length=n+1:=by rw[<- HU.out];exact HOB.out
      rw[hpn,drop_at (show n<u.length by omega),OY.out,List.drop_of_length_le (show u.length<=n+1 by omega),List.cons_append,List.nil_append] at hown
      have hcx:=own_at (i:=K+n) hown (by omega)
      have hfx:=hown.frozenAt (K+n)
      have hs:=hinv.2.1
      have hinv':=hinv
      rw[<- HU.out] at hinv'
      obtain⟨F1,F2,F3,F4⟩:=red_back (y:=y) EE.out (HOL.out.trans HVL.out.symm) (hpn.trans HVL.out.symm) hinv' hyb DO.out DP.out (by rw[HVL.out];exact hpl) hV hq2
      have R1:((y:Int)+(s:Int))%4294967296=((0:Nat):Int):=by omega
      have R2:(s:Int)%4294967296=(s:Int):=by omega
      have R3:((q:Int)-1)%4294967296=((q-1:Nat):Int):=by omega
      obtain⟨q',Q'⟩:∃q',Hid (q-1=q'):=⟨_,rfl⟩
      have R5:(q:Int)-1=(q':Int):=by have:=Q'.out;omega
      rw[Q'.out] at R3 F2
      have OWN:=Lib.hid (own_put (i:=K+n) hown (by omega) 0)
      have G4:=Lib.hid (grownBy_trans hgr (grownBy_setCell _ ⟨g,K+n,none⟩ (.int .u32 ((0:Nat):Int))))
      have HF2:=Lib.hid F2
      have HF4:=Lib.hid F4
      have DPP:=Lib.hid hinv.1
      clear hown hgr hinv hinv' F1 F2 F4
      go_wp2
      go_ret
      refine⟨p++[0],by rw[List.length_append,List.length_singleton,hpn],DPP.out.append (Dig.cons (by omega) Dig.nil),?_,by rw[<- HF2.out];rfl,OWN.out,G4.out⟩
      rw[val_snocK,Nat.mul_zero,Nat.add_zero]
      exact HF4.out
end

set_option maxHeartbeats 2000000
set_option maxRecDepth 100000
section
theorem row_one(W:World)(r B:Nat)(T:TypeId)(h1:r<4294967296)(hB:B=W.heap.size):Row (W.alloc (.cells #[.int .u32 (r:Int)] T)) (some ⟨B,0,none⟩) 1 [r]:=by
 subst hB
 refine⟨by simp,by omega,Dig.cons h1 Dig.nil,fun _=>⟨_,0,rfl,by simp,fun i hi'=>?_⟩⟩
 have h:=heap_alloc_new W (.cells #[.int .u32 (r:Int)] T)
 rw[cell_of_row _ _ (0+i) _ _ _ h]
 simp only[List.length_cons,List.length_nil] at hi'
 match i,hi' with
 | 0,_=>rfl
def RetQR(w:World)(q r:List Nat)(e:Ending)(w':World):Prop :=
 ∃p c p2 c2,e=.returned (.tuple #[.slice p q.length c,.slice p2 r.length c2])/\Row w' p c q/\Row w' p2 c2 r/\Ext w w'
theorem val_one(x:Nat):val [x]=x:=by simp[val]
theorem cmpL_neg{a b:List Nat}(ha:Dig a)(hb:Dig b)(ta:Tight a)(tb:Tight b):cmpL a b<0 <-> val a<val b:=by
 rw[cmpL_tight ha hb ta tb]
 unfold cmpN
 (repeat' split)<;>omega
theorem tight_pos{b:List Nat}(tb:Tight b)(h:0<b.length):0<val b:=by
 rcases Nat.eq_zero_or_pos (val b) with h0|h0
 ·exfalso
  rcases List.eq_nil_or_concat b with rfl|⟨c,x,rfl⟩
  ·simp at h
  ·have hx : x ≠ 0 := by have := tb (by simp); simpa using this
   rw[List.concat_eq_append,val_append,val_one] at h0
   have h1:0<4294967296 ^ c.length:=Nat.pow_pos (by omega)
   have h2:=Nat.mul_pos h1 (show 0<x by omega)
   omega
 ·exact h0
theorem num_divide_less(a b:List Nat)(pa pb:Option Addr)(la ca lb cb:Nat)(w:World)(ha:Row w pa ca a)(hb:Row w pb cb b)(hla:la=a.length)(hlb:lb=b.length)(ta:Tight a)(tb:Tight b)
  (hlt:val a<val b):Calls Tryz.prog 107 #[.slice pa la ca,.slice pb lb cb] w (RetQR w (digs (val a/val b)) (digs (val a%val b))):=by
 have hc:decide (cmpL a b<0)=true:=by simpa using (cmpL_neg ha.dig hb.dig ta tb).2 hlt
 have CP:=Lib.hid (fun w' (hx:Ext w w')=>num_compare a b pa pb la ca lb cb w' (ha.ext hx) (hb.ext hx) hla hlb)
 rw[Nat.div_eq_of_lt hlt,Nat.mod_eq_of_lt hlt,digs_zero,digs_val ha.dig ta]
 subst hla hlb
 go_enter Tryz.func107,Tryz.ntmps107
 go_wp2_with fail
 refine (CP.out _ bxx).mono ?_
 rintro e w1 ⟨rfl,hx⟩
 go_wp2
 go_ret2
 exact⟨none,0,pa,ca,rfl,Row.nil _,ha.ext hx,hx⟩
theorem num_divide_one(a:List Nat)(x:Nat)(pa pb:Option Addr)(la ca lb cb:Nat)(w:World)(ha:Row w pa ca a)(hb:Row w pb cb [x])(hla:la=a.length)(hlb:lb=1)(ta:Tight a)(hx0:0<x)
  (h64:a.length<=1000) (hge:x<=val a):Calls Tryz.prog 107 #[.slice pa la ca,.slice pb lb cb] w (RetQR w (digs (val a/x)) (digs (val a%x))):=by
 have tb:Tight [x]:=by intro h;simp;omega
 have hxd:x<4294967296:=hb.dig.head
 have hc:decide (cmpL a [x]<0)=false:=by
  rw[decide_eq_false_iff_not,cmpL_neg ha.dig hb.dig ta tb,val_one]
  omega
 have CP:=Lib.hid (fun w' (hx:Ext w w')=>num_compare a [x] pa pb la ca lb cb w' (ha.ext hx) (hb.ext hx) hla hlb)
 have SH:=Lib.hid (fun w' (hx:Ext w w')=>num_short a pa la ca x w' (ha.ext hx) hla hx0 hxd h64)
 obtain⟨bb,ob,rfl,hbb,hcb⟩:=hb.at (by simp)
 have hc0:=hcb 0 (by simp)
 simp only[List.getElem?_cons_zero,Option.getD_some,Nat.add_zero] at hc0
 have hr:val a%x<x:=Nat.mod_lt _ hx0
 obtain⟨r,R⟩:∃r,Hid (val a%x=r):=⟨_,rfl⟩
 rw[R.out] at hr SH ⊢
 subst hla hlb
 have hcb1:=hb.le
 have hcb2:=hb.max
 have hla:=ha.le
 have hma:=ha.max
 clear hcb hge ta tb
 go_enter Tryz.func107,Tryz.ntmps107
 go_wp2_with fail
 refine (CP.out _ bxx).mono ?_
 rintro e w1 ⟨rfl,hx1⟩
 have hc1:w1.cell? ⟨bb,ob,none⟩=some (.int .u32 (x:Int)):=(hx1.cell (p:=⟨bb,ob,none⟩) hbb).trans hc0
 go_wp2_with fail
 refine (SH.out _ hx1).mono ?_
 rintro e w2 ⟨p,c,rfl,hq,_,hx2⟩
 have hx3:Ext w w2:=Ext.step hx1 hx2
 go_wp2_with fail
 have T:=Lib.hid (show trim [r]=digs r by unfold trim;rw[val_one])
 refine (num_trim [r] _ _ _ _ (row_one _ _ _ _ (by omega) rfl) rfl).mono ?_
 rintro e w3 ⟨rfl,hr2,hx4⟩
 rw[T.out] at hr2 ⊢
 have hx5:Ext w w3:=Ext.step (hx3.alloc hx3.size _) hx4
 have hq2:=hq.ext (Below.trans ((Below.refl w2.heap.size w2).alloc (Nat.le_refl _) _) (hx4.mono (by simp)))
 go_wp2
 go_ret2
 exact⟨p,c,_,_,rfl,hq2,hr2,hx5⟩
end
end Go.Proofs.YtcfpcafnjgpfdaaGreat
