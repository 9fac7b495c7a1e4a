import Derived.Test.YtghemgdfmldoeaaGreatP15
set_option linter.unusedVariables false
set_option linter.unusedSimpArgs false
namespace Go.Proofs.YtghemgdfmldoeaaGreat
open Go.RowKit
set_option maxHeartbeats 4000000
set_option maxRecDepth 100000
section
theorem wj{w:World}{B e:Nat}{v:Value}{n:Nat}{o:List Nat}(h:w.ownsRow B e 1 v n (enc o)):o.length=n:=by
 have:=h.1;rwa [GV,Nat.mul_one] at this
theorem Dc{w:World}{B e g n c:Nat}{o:List Nat}(h:w.ownsRow B e 1 (.slice (some ⟨g,0,none⟩) n c) n (enc o))(j q:Nat)(hj:j<n)(hq:o[j]?.getD 0=q):w.cell? ⟨g,j,none⟩=some (.int .u32 (q:Int)):=by
 rw[h.cellAt j (by omega),rO o j (by rw[wj h];exact hj),hq]
theorem QX{w:World}{B e g n c:Nat}{o:List Nat}(h:w.ownsRow B e 1 (.slice (some ⟨g,0,none⟩) n c) n (enc o))(j d:Nat) :
  (w.setCell ⟨g,j,none⟩ (.int .u32 (d:Int))).ownsRow B e 1 (.slice (some ⟨g,0,none⟩) n c) n (enc (o.set j d))/\w.grownBy (w.setCell ⟨g,j,none⟩ (.int .u32 (d:Int))) (some g):=by
 have:=h.stored j (.int .u32 (d:Int));have e:(enc o).set j (.int .u32 (d:Int))=enc (o.set j d):=by simp[enc,List.map_set]
 rw[e] at this;exact this
theorem a1y{a b:Nm}(ha:a.right=false):jE a b=(zero,false):=by simp[jE,ha]
theorem a1A{a b:Nm}(hb:b.right=false):jE a b=(zero,false):=by simp[jE,hb]
theorem a1z{a b:Nm}{o:List Nat}(ra:a.right=true)(rb:b.right=true)(hv:val o=val a.d*val b.d):gY (a.neg != b.neg) o=jE a b:=by
 rw[sw,jE,ra,rb,hv,Nm.z,Nm.z];have e:(((val a.d*val b.d:Nat)):Int)=(val a.d:Int)*(val b.d:Int):=by simp
 rw[e];cases a.neg<;>cases b.neg<;>simp[Int.neg_mul,Int.mul_neg]
theorem a17(a b:Nm)(na nb:Bool)(pa pb:Option Addr)(la ca lb cb:Nat)(w:World)(ha:NR w na pa la ca a)(hb:NR w nb pb lb cb b)(ra:a.right=true)(rb:b.right=true) :
  Calls Tryz.prog 212 #[.agg #[.bool na,.slice pa la ca],.agg #[.bool nb,.slice pb lb cb]] w (jR w (jE a b)):=by
 have la64:=ha.len ra;have lb64:=hb.len rb;have hla:=ha.2.1;have hlb:=hb.2.1;have rowa:=ha.2.2;have rowb:=hb.2.2;have hnn:(na != nb)=(a.neg != b.neg):=by rw[ha.1,hb.1]
 have HNN:=Lib.hid hnn;have la64':la<=64:=by omega
 have lb64':lb<=64:=by omega
 have HLA:=Lib.hid hla;have HLB:=Lib.hid hlb;clear hla hlb hnn;obtain⟨i,hi,hz0,hz1,hz2⟩:=info_parts rY;go_enter Tryz.func212,Tryz.ntmps212;go_wp2_with fail;refine (c9 a _ _ _ _ _ (ha.ext ag)).mono ?_;rintro e w1 ⟨rfl,hx⟩;rw[ra];have hx0:ac w w1:=ac.step ag hx;obtain⟨_,⟨_,hk_w1_0,hf_w1_0⟩,⟨_,hk_w1_1,hf_w1_1⟩,_,hk_w1_2,hf_w1_2⟩:=cM hx w.heap.size;go_wp2_with fail;refine (c9 b _ _ _ _ _ (hb.ext ag)).mono ?_;rintro e w2 ⟨rfl,hx2⟩;rw[rb];have hx1:ac w w2:=ac.step hx0 hx2;obtain⟨hz_w2,⟨_,hk_w2_0,hf_w2_0⟩,⟨_,hk_w2_1,hf_w2_1⟩,_,hk_w2_2,hf_w2_2⟩:=cM hx2 w.heap.size;obtain⟨N,hN⟩:∃N,N=la+lb:=⟨_,rfl⟩
 have hN1:N<=la+lb:=Nat.le_of_eq hN;have hN2:la+lb<=N:=Nat.le_of_eq hN.symm;clear hN;go_wp2_with (at_make;refine wpList_make_full _ rfl _ _ 81 rfl w2.heap.size 186 i (.int .u32 0) 1 Tryz.underlying81 hi hz0 hz1 _ _ _ _ N rfl rfl (by omega) (by omega) (by rw[hz2];omega) (by unfold maxLen;omega) (Nat.le_refl _) ?_);intro w3 hown hgr;rw[show (madeCells #[Value.int IntKind.u32 0] N).toList=enc (List.replicate N 0) from by rw[enc,List.map_replicate];exact toList_madeCells_one _ _] at hown;obtain⟨g,G⟩:∃g,Hid (w2.heap.size=g):=⟨_,rfl⟩
 have hx3:ac w2 w3:=⟨hgr.os,hgr.tape,hgr.output,hgr.size,λk hk=>hgr.block k hk (by simp)⟩;have hx4:ac w w3:=ac.step hx1 hx3;obtain⟨_,⟨_,hk_w3_0,hf_w3_0⟩,⟨_,hk_w3_1,hf_w3_1⟩,_,hk_w3_2,hf_w3_2⟩:=cM hx3 w.heap.size;rw[G.out] at hown ⊢;have hg0:w.heap.size+3<=g:=by rw[<- G.out];exact hz_w2
 have hg1:g<w3.heap.size:=by
  obtain⟨_,h⟩:=hown;rcases h with⟨h,_⟩|⟨g',_,_,h,_,hh,_⟩
  ·cases h
  ·cases h;exact (Array.getElem?_eq_some_iff.1 hh).1
 clear hgr hx hx2 hx3 hx0;go_wp2_with fail;have c0:w3.cell? ⟨w.heap.size,0,none⟩=some (.bool na):=by go_simp
 have c1:w3.cell? ⟨w.heap.size,1,none⟩=some (.slice pa la ca):=by go_simp
 have c2:w3.cell? ⟨w.heap.size+1,0,none⟩=some (.bool nb):=by go_simp
 have c3:w3.cell? ⟨w.heap.size+1,1,none⟩=some (.slice pb lb cb):=by go_simp
 have c4:w3.cell? ⟨w.heap.size+2,0,none⟩=some (.bool false):=by go_simp
 have c5:w3.cell? ⟨w.heap.size+2,1,none⟩=some (.slice none 0 0):=by go_simp
 have f4:∀o,w3.frozen? ⟨w.heap.size+2,o,none⟩=false:=by intro o;go_simp
 have rowa3:=rowa.ext hx4;have rowb3:=rowb.ext hx4;have bla:0<a.d.length->∀x,pa=some x->x.block≠g:=by
  intro h0 x hx;obtain⟨b',o,hp,hlt,_⟩:=rowa.at h0;rw[hp] at hx;cases hx;exact Nat.ne_of_lt (show b'<g by omega)
 have blb:0<b.d.length->∀x,pb=some x->x.block≠g:=by
  intro h0 x hx;obtain⟨b',o,hp,hlt,_⟩:=rowb.at h0;rw[hp] at hx;cases hx;exact Nat.ne_of_lt (show b'<g by omega)
 have BLA:=Lib.hid bla;have BLB:=Lib.hid blb;have C0:=Lib.hid c0;have C2:=Lib.hid c2;have C4:=Lib.hid c4;have C5:=Lib.hid c5;have C1:=Lib.hid c1;have C3:=Lib.hid c3;have F4:=Lib.hid f4;have RA:=Lib.hid rowa3;have RB:=Lib.hid rowb3;clear hk_w1_0 hk_w1_1 hk_w1_2 hf_w1_0 hf_w1_1 hf_w1_2 hk_w2_0 hk_w2_1 hk_w2_2 hf_w2_0 hf_w2_1 hf_w2_2 hk_w3_0 hk_w3_1 hk_w3_2 hf_w3_0 hf_w3_1 hf_w3_2 c0 c1 c2 c3 c4 c5 f4 rowa3 rowb3 bla blb rowa rowb ha hb
 go_loopw [32] (λi wr=>∃(n:Nat) (o:List Nat),n<=la/\i=.int .i64 (n:Int)/\ao o/\val o=val (a.d.take n)*val b.d/\m7 o (n+lb)/\wr.ownsRow g 186 1 (.slice (some ⟨g,0,none⟩) N N) N (enc o)/\w3.grownBy wr (some g)) (λi _=>la-(intOf i).toNat)
 case atStart=>exact⟨0,_,Nat.zero_le _,rfl,λx hx=>by rw[List.eq_of_mem_replicate hx];decide,by rw[a6X];simp[val],m7.replicate _ _,hown,⟨rfl,rfl,rfl,Nat.le_refl _,λ_ _ _=>rfl⟩⟩
 case round =>
  clear hown;obtain⟨n,o,hn,rfl,hd,hv,hz,hown,hg⟩:=hrel;by_cases hlt:n<la
  ·have RAw := RA.out.grown BLA.out hg;obtain⟨ba,oa,rfl,hba,hca⟩:=RAw.at (by rw[<- HLA.out];omega);have hca1:=hca n (by rw[<- HLA.out];omega);obtain⟨x,X⟩:∃x,Hid (a.d[n]?.getD 0=x):=⟨_,rfl⟩;rw[X.out] at hca1;have hxd:x<4294967296:=by have:=RA.out.dig.getD n;rw[List.getD_eq_getElem?_getD,X.out] at this;exact this
   have c3:wr.cell? ⟨w.heap.size+1,1,none⟩=some (.slice pb lb cb):=(World.cell?_of_block (hg.block _ (show w.heap.size+1<w3.heap.size by omega) (by simp;omega))).trans C3.out;have M0:=Lib.hid (mY.start (a:=a.d) (b:=b.d) (i:=n) (x:=x) hd hv);clear hca hd hv;have V:=Lib.hid hz;clear hz;go_wp2_with fail;go_loopw [9,40] (λcr kk wi=>∃(k c:Nat) (q:List Nat),k<=lb/\kk=.int .i64 (k:Int)/\cr=.int .u64 (c:Int)/\mY a.d b.d q n k x c/\m7 q (n+lb)/\wi.ownsRow g 186 1 (.slice (some ⟨g,0,none⟩) N N) N (enc q)/\w3.grownBy wi (some g)) (λ_ kk _=>lb-(intOf kk).toNat)
   case atStart=>exact⟨0,0,o,Nat.zero_le _,rfl,rfl,M0.out,V.out,hown,hg⟩
   case round =>
    clear hown hg c3 hca1;obtain⟨k,c,q,hk,rfl,rfl,hm,hz,hown,hg⟩:=hrel;by_cases hkl:k<lb
    ·have RBw := RB.out.grown BLB.out hg;obtain⟨bb,ob,rfl,hbb,hcb⟩:=RBw.at (by rw[<- HLB.out];omega);have hcb1:=hcb k (by rw[<- HLB.out];omega);obtain⟨y,Y⟩:∃y,Hid (b.d[k]?.getD 0=y):=⟨_,rfl⟩;rw[Y.out] at hcb1;have hyd:y<4294967296:=by have:=RB.out.dig.getD k;rw[List.getD_eq_getElem?_getD,Y.out] at this;exact this
     obtain⟨u,U⟩:∃u,Hid (q[n+k]?.getD 0=u):=⟨_,rfl⟩;have hud:u<4294967296:=by have:=hm.1.getD (n+k);rw[List.getD_eq_getElem?_getD,U.out] at this;exact this
     have hql:=wj hown;have hcu:=Dc hown (n+k) u (by omega) U.out;have hfu:=hown.frozenAt (n+k);obtain⟨m,MM⟩:∃m,Hid (x*y=m):=⟨_,rfl⟩;have hme:(x:Int)*(y:Int)=(m:Int):=by rw[<- MM.out];simp
     have hmb:m<=18446744065119617025:=by rw[<- MM.out];exact Nat.mul_le_mul (show x<=4294967295 by omega) (show y<=4294967295 by omega)
     have hcd:=hm.2.1;have M1:=Lib.hid (hm.step (by omega) hxd Y.out hyd U.out hud MM.out);have hst:=QX hown (n+k) ((c+(u+m))%4294967296);have ST:=Lib.hid hst.1;have SG:=Lib.hid (grownBy_trans hg hst.2);have Tryz1:=Lib.hid (hz.set (j:=n+k) (d:=(c+(u+m))%4294967296) (by omega));clear hcb hm hst hz hql hown hg;go_wp2;have e:(((c+(u+m))%4294967296:Nat):Int)=((c:Int)+((u:Int)+(m:Int)))%4294967296:=by omega
     have s1:=ST.out;have s2:=SG.out;rw[e] at s1 s2;exact⟨⟨k+1,(c+(u+m))/4294967296,_,by omega,rfl,a4H (by omega),M1.out,Tryz1.out,s1,s2⟩,by simp[intOf];omega⟩
    ·have hk2 : lb <= k := by omega
     have hql:=wj hown;have hcu:=Dc hown (n+lb) 0 (by omega) (hz _ (Nat.le_refl _));have hfu:=hown.frozenAt (n+lb);obtain rfl:k=lb:=by omega
     have c3:wr.cell? ⟨w.heap.size+1,1,none⟩=some (.slice pb k cb):=(World.cell?_of_block (hg.block _ (show w.heap.size+1<w3.heap.size by omega) (by simp;omega))).trans C3.out;have hst:=QX hown (n+k) c;have ST:=Lib.hid hst.1;have SG:=Lib.hid (grownBy_trans hg hst.2);have FIN:=Lib.hid (hm.finish (by rw[<- HLB.out];exact Nat.le_refl _) X.out (hz _ (Nat.le_refl _)) (by omega));have hcd:=hm.2.1;have Tryz1:=Lib.hid ((hz.mono (show n+k<=n+1+k by omega)).set (j:=n+k) (d:=c) (by omega));clear hst hm hz hql hown hg;go_wp2
     exact⟨⟨n+1,_,by omega,rfl,FIN.out.1,FIN.out.2,Tryz1.out,ST.out,SG.out⟩,by simp[intOf];omega⟩
  ·obtain rfl : n = la := by omega
   have hql:=wj hown;obtain⟨p',c',hv',hrow,_⟩:=sU hown hd;obtain⟨rfl,rfl⟩:some (⟨g,0,none⟩:Addr)=p'/\N=c':=by
    simp only[Value.slice.injEq] at hv';exact⟨hv'.1,hv'.2.2⟩
   have MP:Hid (gY (na != nb) o=jE a b):=by
    have:=a1z ra rb (o:=o) (by rw[hv,HLA.out,List.take_of_length_le (Nat.le_refl _)]);rw[HNN.out];exact this
   have ROW:=Lib.hid hrow;have HQ:=Lib.hid hql;have hx5:ac w wr:=⟨hg.os.trans hx4.os,hg.tape.trans hx4.tape,hg.output.trans hx4.output,Nat.le_trans hx4.size hg.size,λk hk=>(hg.block k (by omega) (by simp;omega)).trans (hx4.block k hk)⟩;have kp:∀j o,j<3->wr.cell? ⟨w.heap.size+j,o,none⟩=w3.cell? ⟨w.heap.size+j,o,none⟩:=λj o hj=>World.cell?_of_block (hg.block _ (show w.heap.size+j<w3.heap.size by omega) (by simp;omega))
   have kf:∀j o,j<3->wr.frozen? ⟨w.heap.size+j,o,none⟩=w3.frozen? ⟨w.heap.size+j,o,none⟩:=λj o hj=>World.frozen?_of_block (hg.block _ (show w.heap.size+j<w3.heap.size by omega) (by simp;omega))
   have c0:wr.cell? ⟨w.heap.size,0,none⟩=some (.bool na):=(kp 0 0 (by omega)).trans C0.out;have c2:wr.cell? ⟨w.heap.size+1,0,none⟩=some (.bool nb):=(kp 1 0 (by omega)).trans C2.out;have c4:wr.cell? ⟨w.heap.size+2,0,none⟩=some (.bool false):=(kp 2 0 (by omega)).trans C4.out;have c5:wr.cell? ⟨w.heap.size+2,1,none⟩=some (.slice none 0 0):=(kp 2 1 (by omega)).trans C5.out;have f4:∀o,wr.frozen? ⟨w.heap.size+2,o,none⟩=false:=λo=>(kf 2 o (by omega)).trans (F4.out o)
   have hzr:w.heap.size+3<=wr.heap.size:=by have:=hg.size;omega
   clear kp kf hrow hql hv' hown hd hv hz hg;go_wp2_with fail;refine (nN (na != nb) o _ _ _ _ ROW.out HQ.out.symm).mono ?_;rintro e w4 ⟨n',p',l',c',rfl,hnr,hnew,hx6⟩;rw[MP.out] at hnr ⊢;have hx7:ac w w4:=ac.step hx5 hx6;obtain⟨_,⟨_,_,_⟩,⟨_,_,_⟩,_,_,_⟩:=cM hx6 w.heap.size;go_wp2_with fail;refine bodyPost_ret (v:=.tuple #[.agg #[.bool n',.slice p' l' c'],.bool (jE a b).2]) (by simp[results,Tryz.results212,go_sem, *]) rfl ?_
   exact⟨n',p',l',c',rfl,(by repeat (first|assumption|refine NR.set ?_ (by assumption) _ (by first|(simp;done)|(simp;omega)|omega) _|refine NR.alloc ?_ _)),hnew.mono (by omega),ag⟩
theorem CJ(a b:Nm)(na nb:Bool)(pa pb:Option Addr)(la ca lb cb:Nat)(w:World)(ha:NR w na pa la ca a)(hb:NR w nb pb lb cb b) :
  Calls Tryz.prog 212 #[.agg #[.bool na,.slice pa la ca],.agg #[.bool nb,.slice pb lb cb]] w (jR w (jE a b)):=by
 by_cases ra:a.right=true
 ·by_cases rb : b.right = true
  ·exact a17 a b na nb pa pb la ca lb cb w ha hb ra rb
  ·have rb : b.right = false := by simpa using rb
   have S:=Lib.hid (a1A (a:=a) rb);go_enter Tryz.func212,Tryz.ntmps212;go_wp2_with fail;refine (c9 a _ _ _ _ _ (ha.ext ag)).mono ?_;rintro e w1 ⟨rfl,hx⟩;rw[ra];have hx0:ac w w1:=ac.step ag hx;obtain⟨_,⟨_,hk_w1_0,hf_w1_0⟩,⟨_,hk_w1_1,hf_w1_1⟩,_,hk_w1_2,hf_w1_2⟩:=cM hx w.heap.size;go_wp2_with fail;refine (c9 b _ _ _ _ _ (hb.ext ag)).mono ?_;rintro e w2 ⟨rfl,hx2⟩;rw[rb];have hx1:ac w w2:=ac.step hx0 hx2;obtain⟨hz_w2,⟨_,hk_w2_0,hf_w2_0⟩,⟨_,hk_w2_1,hf_w2_1⟩,_,hk_w2_2,hf_w2_2⟩:=cM hx2 w.heap.size;go_wp2_with fail
   refine bodyPost_ret (v:=.tuple #[.agg #[.bool false,.slice none 0 0],.bool false]) (by simp[results,Tryz.results212,go_sem, *]) rfl ?_;rw[S.out];exact⟨false,none,0,0,rfl,⟨rfl,rfl,Row.nil _⟩,New.none _,ag⟩
 ·have ra : a.right = false := by simpa using ra
  have S:=Lib.hid (a1y (b:=b) ra);go_enter Tryz.func212,Tryz.ntmps212;go_wp2_with fail;refine (c9 a _ _ _ _ _ (ha.ext ag)).mono ?_;rintro e w1 ⟨rfl,hx⟩;rw[ra];have hx0:ac w w1:=ac.step ag hx;obtain⟨_,⟨_,hk_w1_0,hf_w1_0⟩,⟨_,hk_w1_1,hf_w1_1⟩,_,hk_w1_2,hf_w1_2⟩:=cM hx w.heap.size;go_wp2_with fail;refine bodyPost_ret (v:=.tuple #[.agg #[.bool false,.slice none 0 0],.bool false]) (by simp[results,Tryz.results212,go_sem, *]) rfl ?_;rw[S.out];exact⟨false,none,0,0,rfl,⟨rfl,rfl,Row.nil _⟩,New.none _,ag⟩
end
set_option maxHeartbeats 2000000
set_option maxRecDepth 100000
section
theorem Row.set'{w:World}{p:Option Addr}{c:Nat}{d:List Nat}(h:Row w p c d)(a:Addr)(hn:∀x,p=some x->x.block≠a.block)(v:Value):Row (w.setCell a v) p c d:=by
 refine⟨h.1,h.2.1,h.2.2.1,λh0=>?_⟩;obtain⟨b,o,hp,hlt,hc⟩:=h.2.2.2 h0;refine⟨b,o,hp,by simpa[World.setCell] using hlt,λi hi=>?_⟩;have hb:=hn _ hp;rw[<- hc i hi];exact World.cell?_of_block (Below.heap_setCell _ _ _ _ hb)
theorem NR.set'{w:World}{n:Bool}{p:Option Addr}{l c:Nat}{a:Nm}(h:NR w n p l c a)(x:Addr)(hn:∀y,p=some y->y.block≠x.block)(v:Value):NR (w.setCell x v) n p l c a :=
 ⟨h.1,h.2.1,h.2.2.set' x hn v⟩
theorem NR.zero(w:World):NR w false none 0 0 zero:=⟨rfl,rfl,Row.nil w⟩
theorem Ld:zero.z=0:=rfl
theorem a7q:zero.right=true:=rfl
def sgn(z:Int):Int:=eP z 0
theorem XH{a:Nm}(ra:a.right=true):ej a zero=sgn a.z:=by
 unfold ej;rw[ra,a7q,Ld];rfl
theorem D6(a:Nm)(n:Bool)(p:Option Addr)(l c:Nat)(w:World)(h:NR w n p l c a)(ra:a.right=true) :
  Calls Tryz.prog 139 #[.agg #[.bool n,.slice p l c]] w λe w'=>e=.returned (.int .i64 (sgn a.z))/\ac w w':=by
 have S:=Lib.hid (XH ra);go_enter Tryz.func139,Tryz.ntmps139;go_wp2_with fail;refine (CH a zero _ _ _ _ _ _ _ _ _ (h.ext ag) (NR.zero _)).mono ?_;rintro e w1 ⟨rfl,hx⟩;rw[S.out];have hx0:ac w w1:=ac.step ag hx;go_wp2;go_ret;exact⟨rfl,hx0⟩
def cK(l:List Nm):Int:=l.foldl (λz a=>z*a.z) 1
theorem a3G(l:List Nm)(a:Nm):cK (l++[a])=cK l*a.z:=by simp[cK]
theorem a3H(l:List Nm)(k:Nat)(a:Nm)(h:l[k]? = some a):cK (l.take (k+1))=cK (l.take k)*a.z:=by
 have hk:=(List.getElem?_eq_some_iff.1 h).1;rw[List.take_succ_eq_append_getElem hk,a3G];rw[List.getElem?_eq_getElem hk] at h;cases h;rfl
def iN(w:World)(b:Nat)(l:List Nm):Prop :=
 b<w.heap.size/\∀i a,l[i]? = some a->a.right=true/\∃n p li c,w.cell? ⟨b,i*2,none⟩=some (.bool n)/\w.cell? ⟨b,i*2+1,none⟩=some (.slice p li c)/\NR w n p li c a
theorem iN.ext{w w':World}{b:Nat}{l:List Nm}(h:iN w b l)(hx:ac w w'):iN w' b l:=by
 refine⟨Nat.lt_of_lt_of_le h.1 hx.size,λi a hi=>?_⟩;obtain⟨hr,n,p,li,c,h1,h2,h3⟩:=h.2 i a hi;exact⟨hr,n,p,li,c,by rw[hx.cell (p:=⟨b,i*2,none⟩) h.1];exact h1,by rw[hx.cell (p:=⟨b,i*2+1,none⟩) h.1];exact h2,h3.ext hx⟩
theorem Qg{a b:Nm}{z:Int}(ra:a.right=true)(rb:b.right=true)(hz:a.z*b.z=z)(hs:small z=true):jE a b=(ai z,true):=by
 unfold jE fit;rw[ra,rb,hz,hs];rfl
theorem SV(l:List Nm)(b:Nat)(n c:Nat)(w:World)(h:iN w b l)(hn:n=l.length)(hl:l.length<=1000)(hs:∀k,small (cK (l.take k))=true) :
  Calls Tryz.prog 150 #[.slice (some ⟨b,0,none⟩) n c] w (kJ w (ai (cK l))):=by
 subst hn;have HS:=Lib.hid hs;clear hs;have HN:=Lib.hid h;have hb:=h.1;clear h;go_enter Tryz.func150,Tryz.ntmps150;go_wp2_with fail;refine (CN 1 _ (by omega) (by omega)).mono ?_;rintro e w1 ⟨n1,p1,l1,c1,rfl,hnr,hnew,hx⟩;have hx0:ac w w1:=ac.step ag hx;obtain⟨hz_w1,hl_w1_0,hk_w1_0,hf_w1_0⟩:=vM hx w.heap.size;go_wp2_with fail;have r0:w1.cell? ⟨w.heap.size,0,none⟩=some (.bool false):=by go_simp
 have r1:w1.cell? ⟨w.heap.size,1,none⟩=some (.slice none 0 0):=by go_simp
 have rf:∀o,w1.frozen? ⟨w.heap.size,o,none⟩=false:=by intro o;go_simp
 obtain⟨g,G⟩:∃g,Hid (w1.heap.size=g):=⟨_,rfl⟩;have hg0:w.heap.size<g:=by rw[<- G.out];exact hl_w1_0
 obtain⟨w2,W2⟩:∃w2,Hid (w1.alloc (.cells #[.bool n1,.slice p1 l1 c1] 83)=w2):=⟨_,rfl⟩;rw[W2.out,G.out];have hx1:ac w w2:=by rw[<- W2.out];exact ag
 have hg1:g<w2.heap.size:=by rw[<- W2.out,<- G.out];simp
 have g0:w2.cell? ⟨g,0,none⟩=some (.bool n1):=by rw[<- W2.out,<- G.out];go_simp
 have g1:w2.cell? ⟨g,1,none⟩=some (.slice p1 l1 c1):=by rw[<- W2.out,<- G.out];go_simp
 have gf:∀o,w2.frozen? ⟨g,o,none⟩=false:=by intro o;rw[<- W2.out,<- G.out];go_simp
 have s0:w2.cell? ⟨w.heap.size,0,none⟩=some (.bool false):=by rw[<- W2.out];go_simp
 have s1:w2.cell? ⟨w.heap.size,1,none⟩=some (.slice none 0 0):=by rw[<- W2.out];go_simp
 have sf:∀o,w2.frozen? ⟨w.heap.size,o,none⟩=false:=by intro o;rw[<- W2.out];go_simp
 have hnr2:NR w2 n1 p1 l1 c1 (ai (cK (l.take 0))):=by rw[<- W2.out];exact hnr.alloc _
 have hnew2:∀x,p1=some x->w.heap.size<x.block:=λx hx=>by have:=hnew x hx;simp at this;omega
 clear hnr hnew hx0 hk_w1_0 hf_w1_0 hl_w1_0 hz_w1 hx r0 r1 rf;go_loopw [11] (λi wr=>∃(k:Nat) (n':Bool) (p':Option Addr) (l' c':Nat),k<=l.length/\i=.int .i64 (k:Int)/\wr.cell? ⟨g,0,none⟩=some (.bool n')/\wr.cell? ⟨g,1,none⟩=some (.slice p' l' c')/\(∀o,wr.frozen? ⟨g,o,none⟩=false) /\
   NR wr n' p' l' c' (ai (cK (l.take k)))/\(∀x,p'=some x->w.heap.size<x.block)/\wr.cell? ⟨w.heap.size,0,none⟩=some (.bool false)/\wr.cell? ⟨w.heap.size,1,none⟩=some (.slice none 0 0)/\(∀o,wr.frozen? ⟨w.heap.size,o,none⟩=false)/\g<wr.heap.size/\ac w wr) (λi _=>l.length-(intOf i).toNat)
 case atStart=>exact⟨0,n1,p1,l1,c1,Nat.zero_le _,rfl,g0,g1,gf,hnr2,hnew2,s0,s1,sf,hg1,hx1⟩
 case round =>
  clear g0 g1 gf hnr2 hnew2 s0 s1 sf hg1 hx1;obtain⟨k,n',p',l',c',hk,rfl,g0,g1,gf,hnr,hnew,s0,s1,sf,hg1,hx⟩:=hrel;by_cases hlt:k<l.length
  ·have hb2 : b < wr.heap.size := Nat.lt_of_lt_of_le hb hx.size;obtain⟨ra,n2,p2,l2,c2,e0,e1,hna⟩:=(HN.out.ext hx).2 k l[k] (List.getElem?_eq_getElem hlt);have PR:=Lib.hid (a3H l k l[k] (List.getElem?_eq_getElem hlt));have HNW:=Lib.hid hnew;clear hnew;go_wp2_with fail;have MP:=Lib.hid (Qg (ic (HS.out k)) ra (by rw[fj];exact PR.out.symm) (HS.out (k+1)));refine (CJ (ai (cK (l.take k))) l[k] _ _ _ _ _ _ _ _ _ (hnr.alloc _) (hna.alloc _)).mono ?_;rintro e w3 ⟨n3,p3,l3,c3,rfl,hnr3,hnew3,hx3⟩;rw[MP.out] at hnr3 ⊢;have hx4:ac wr w3:=ac.step ag hx3;have hx5:ac w w3:=ac.step hx hx4
   have g0':w3.cell? ⟨g,0,none⟩=some (.bool n'):=(hx4.cell (p:=⟨g,0,none⟩) hg1).trans g0;have g1':w3.cell? ⟨g,1,none⟩=some (.slice p' l' c'):=(hx4.cell (p:=⟨g,1,none⟩) hg1).trans g1;have gf':∀o,w3.frozen? ⟨g,o,none⟩=false:=λo=>(hx4.frozen (p:=⟨g,o,none⟩) hg1).trans (gf o)
   have hw0:w.heap.size<wr.heap.size:=by omega
   have s0':w3.cell? ⟨w.heap.size,0,none⟩=some (.bool false):=(hx4.cell (p:=⟨w.heap.size,0,none⟩) hw0).trans s0;have s1':w3.cell? ⟨w.heap.size,1,none⟩=some (.slice none 0 0):=(hx4.cell (p:=⟨w.heap.size,1,none⟩) hw0).trans s1;have sf':∀o,w3.frozen? ⟨w.heap.size,o,none⟩=false:=λo=>(hx4.frozen (p:=⟨w.heap.size,o,none⟩) hw0).trans (sf o)
   have hg2:g<w3.heap.size:=Nat.lt_of_lt_of_le hg1 hx4.size;have hw2:w.heap.size<w3.heap.size:=by omega
   have hnew4:∀x,p3=some x->wr.heap.size<x.block:=λx hx=>by have:=hnew3 x hx;simp at this;omega
   have NEW:=Lib.hid hnew4;clear hnew3 hnew4 g0 g1 gf s0 s1 sf hnr hna hx3 e0 e1;go_wp2_with fail;refine⟨⟨k+1,n3,p3,l3,c3,by omega,rfl,by go_simp,by go_simp,λo=>by go_simp,?_,λx hx=>by have:=NEW.out x hx;omega,by go_simp,by go_simp,λo=>by go_simp,by simp;omega,ag⟩,by simp[intOf];omega⟩;refine (NR.set' (NR.set' hnr3 _ ?_ _) _ ?_ _).alloc _
   ·intro y hy;have:=NEW.out y hy;simp;omega
   ·intro y hy;have:=NEW.out y hy;simp;omega
  ·obtain rfl : k = l.length := by omega
   rw[List.take_of_length_le (Nat.le_refl _)] at hnr;have HNW:=Lib.hid hnew;have hw0:w.heap.size<wr.heap.size:=by omega
   clear hnew;go_wp2_with fail;refine bodyPost_ret (v:=.agg #[.bool n',.slice p' l' c']) (by simp[results,Tryz.results150,go_sem, *]) rfl ?_;refine⟨n',p',l',c',rfl,?_,λx hx=>Nat.le_of_lt (HNW.out x hx),ag⟩;refine NR.set' (NR.set' hnr _ ?_ _) _ ?_ _
   ·intro y hy;have:=HNW.out y hy;simp;omega
   ·intro y hy;have:=HNW.out y hy;simp;omega
end
set_option maxHeartbeats 4000000
set_option maxRecDepth 100000
section
def cO(a b c:Int):Int:=if 0<=sgn a*(sgn b*sgn c) then max (min (sgn a+sgn b*sgn c) 1) (-1) else sgn a*eP (a*a) (b*b*c)
theorem NC(a b:Int):eP a b = -1\/eP a b=0\/eP a b=1:=by
 unfold eP;split
 ·exact .inl rfl
 ·split
  ·exact .inr (.inl rfl)
  ·exact .inr (.inr rfl)
theorem Ee(a:Int) : -1<=sgn a/\sgn a<=1:=by
 rcases NC a 0 with h|h|h<;>rw[sgn,h]<;>omega
theorem FZ(a b:Int) : -1<=eP a b/\eP a b<=1:=by
 rcases NC a b with h|h|h<;>rw[h]<;>omega
theorem KY{a b:Int}(ha : -1<=a/\a<=1)(hb : -1<=b/\b<=1) : -1<=a*b/\a*b<=1:=by
 obtain rfl|rfl|rfl:a = -1\/a=0\/a=1:=by omega
 all_goals omega
theorem Nx{x y:Int}(hx:small x=true)(hy:small y=true):ej (ai x) (ai y)=eP x y:=by
 unfold ej;rw[ic hx,ic hy,fj,fj];rfl
theorem iN.drew{w:World}{b:Nat}{l:List Nm}(h:iN w b l):iN w.drew b l:=h.ext (Below.refl _ _).drew
theorem iN.more{w:World}{b:Nat}{l:List Nm}(h:iN w b l)(o:Obj):iN (w.alloc o) b l:=h.ext ((Below.refl _ _).alloc (Nat.le_refl _) _)
theorem Vj{W:World}{n1 n2:Bool}{p1 p2:Option Addr}{l1 c1 l2 c2 B:Nat}{a b:Nm}(T:TypeId)(h1:NR W n1 p1 l1 c1 a)(h2:NR W n2 p2 l2 c2 b)(ra:a.right=true)(rb:b.right=true)(hB:B=W.heap.size) :
  iN (W.alloc (.cells #[.bool n1,.slice p1 l1 c1,.bool n2,.slice p2 l2 c2] T)) B [a,b]:=by
 subst hB;have hh:=heap_alloc_new W (.cells #[.bool n1,.slice p1 l1 c1,.bool n2,.slice p2 l2 c2] T);refine⟨by simp,λi x hi=>?_⟩;match i,hi with
 | 0,hi =>
  simp only[List.getElem?_cons_zero,Option.some.injEq] at hi;subst hi;exact⟨ra,n1,p1,l1,c1,by rw[cell_of_row _ _ _ _ _ _ hh];rfl,by rw[cell_of_row _ _ _ _ _ _ hh];rfl,h1.alloc _⟩
 | 1,hi =>
  simp only[List.getElem?_cons_succ,List.getElem?_cons_zero,Option.some.injEq] at hi;subst hi;exact⟨rb,n2,p2,l2,c2,by rw[cell_of_row _ _ _ _ _ _ hh];rfl,by rw[cell_of_row _ _ _ _ _ _ hh];rfl,h2.alloc _⟩
 | i+2,hi=>simp at hi
theorem Vi{W:World}{n1 n2 n3:Bool}{p1 p2 p3:Option Addr}{l1 c1 l2 c2 l3 c3 B:Nat}{a b c:Nm}(T:TypeId)(h1:NR W n1 p1 l1 c1 a)(h2:NR W n2 p2 l2 c2 b)(h3:NR W n3 p3 l3 c3 c)(ra:a.right=true)(rb:b.right=true)(rc:c.right=true)(hB:B=W.heap.size) :
  iN (W.alloc (.cells #[.bool n1,.slice p1 l1 c1,.bool n2,.slice p2 l2 c2,.bool n3,.slice p3 l3 c3] T)) B [a,b,c]:=by
 subst hB;have hh:=heap_alloc_new W (.cells #[.bool n1,.slice p1 l1 c1,.bool n2,.slice p2 l2 c2,.bool n3,.slice p3 l3 c3] T);refine⟨by simp,λi x hi=>?_⟩;match i,hi with
 | 0,hi =>
  simp only[List.getElem?_cons_zero,Option.some.injEq] at hi;subst hi;exact⟨ra,n1,p1,l1,c1,by rw[cell_of_row _ _ _ _ _ _ hh];rfl,by rw[cell_of_row _ _ _ _ _ _ hh];rfl,h1.alloc _⟩
 | 1,hi =>
  simp only[List.getElem?_cons_succ,List.getElem?_cons_zero,Option.some.injEq] at hi;subst hi;exact⟨rb,n2,p2,l2,c2,by rw[cell_of_row _ _ _ _ _ _ hh];rfl,by rw[cell_of_row _ _ _ _ _ _ hh];rfl,h2.alloc _⟩
 | 2,hi =>
  simp only[List.getElem?_cons_succ,List.getElem?_cons_zero,Option.some.injEq] at hi;subst hi;exact⟨rc,n3,p3,l3,c3,by rw[cell_of_row _ _ _ _ _ _ hh];rfl,by rw[cell_of_row _ _ _ _ _ _ hh];rfl,h3.alloc _⟩
 | i+3,hi=>simp at hi
theorem a4Y(a b:Nm)(B c:Nat)(w:World)(h:iN w B [a,b])(hs:∀k,small (cK ([a,b].take k))=true) :
  Calls Tryz.prog 150 #[.slice (some ⟨B,0,none⟩) 2 c] w (kJ w (ai (cK [a,b]))):=SV [a,b] B 2 c w h rfl (by simp) hs
theorem a4Z(a b d:Nm)(B c:Nat)(w:World)(h:iN w B [a,b,d])(hs:∀k,small (cK ([a,b,d].take k))=true) :
  Calls Tryz.prog 150 #[.slice (some ⟨B,0,none⟩) 3 c] w (kJ w (ai (cK [a,b,d]))):=SV [a,b,d] B 3 c w h rfl (by simp) hs
theorem a4X(a b c:Nm)(na nb nc:Bool)(pa pb pc:Option Addr)(la ca lb cb lc cc:Nat)(w:World)(ha:NR w na pa la ca a)(hb:NR w nb pb lb cb b)(hc:NR w nc pc lc cc c)(ra:a.right=true)(rb:b.right=true)(rc:c.right=true)
  (s1:∀k,small (cK ([a,a].take k))=true) (s2:∀k,small (cK ([b,b,c].take k))=true) :
  Calls Tryz.prog 151 #[.agg #[.bool na,.slice pa la ca],.agg #[.bool nb,.slice pb lb cb],.agg #[.bool nc,.slice pc lc cc]] w λe w'=>e=.returned (.int .i64 (cO a.z b.z c.z))/\ac w w':=by
 have S1:=Lib.hid s1;have S2:=Lib.hid s2;clear s1 s2;have ba:=Ee a.z;have bb:=Ee b.z;have bc:=Ee c.z;obtain⟨x,X⟩:∃x,Hid (sgn a.z=x):=⟨_,rfl⟩;obtain⟨sb,SB⟩:∃x,Hid (sgn b.z=x):=⟨_,rfl⟩;obtain⟨sc,SC⟩:∃x,Hid (sgn c.z=x):=⟨_,rfl⟩;rw[X.out] at ba;rw[SB.out] at bb;rw[SC.out] at bc;obtain⟨y,Y⟩:∃y,Hid (sb*sc=y):=⟨_,rfl⟩;have by':=KY bb bc
 rw[Y.out] at by'
 obtain⟨q,Q⟩:∃q,Hid (x*y=q):=⟨_,rfl⟩;have bq:=KY ba by'
 rw[Q.out] at bq;have hy:=Y.out;have hq:=Q.out;obtain⟨r,R⟩:∃r,Hid (eP (a.z*a.z) (b.z*b.z*c.z)=r):=⟨_,rfl⟩;have br:=FZ (a.z*a.z) (b.z*b.z*c.z);rw[R.out] at br;obtain⟨z,Z⟩:∃z,Hid (x*r=z):=⟨_,rfl⟩;have bz:=KY ba br;rw[Z.out] at bz;have hz:=Z.out;have RES:Hid (cO a.z b.z c.z=if 0<=q then max (min (x+y) 1) (-1) else z):=by
  show cO a.z b.z c.z=_;unfold cO;rw[X.out,SB.out,SC.out,Y.out,Q.out,R.out,Z.out]
 go_enter Tryz.func151,Tryz.ntmps151;go_wp2_with fail
 go_region_held3 (λw'=>w'.cell? ⟨w.heap.size,0,none⟩=some (.bool na)/\w'.cell? ⟨w.heap.size,1,none⟩=some (.slice pa la ca)/\w'.cell? ⟨w.heap.size+1,0,none⟩=some (.bool nb)/\w'.cell? ⟨w.heap.size+1,1,none⟩=some (.slice pb lb cb)/\w'.cell? ⟨w.heap.size+2,0,none⟩=some (.bool nc)/\w'.cell? ⟨w.heap.size+2,1,none⟩=some (.slice pc lc cc)) (refine⟨?_,?_,?_,?_,?_,?_⟩<;>go_simp) (first|(go_at_call 139;(with_reducible refine (D6 a na pa la ca _ (ha.ext ag) ra).mono ?_);rintro e w1 ⟨rfl,hx⟩;rw[X.out];(have hx0:ac w w1:=ac.step ag hx);obtain⟨_,⟨_,_,_⟩,⟨_,_,_⟩,_,_,_⟩:=cM hx w.heap.size)|(go_at_call 139;(with_reducible refine (D6 b nb pb lb cb _ (hb.ext ag) rb).mono ?_);rintro e w2 ⟨rfl,hx⟩;rw[SB.out];(have hx1:ac w w2:=ac.step ag hx);obtain⟨_,⟨_,_,_⟩,⟨_,_,_⟩,_,_,_⟩:=cM hx w.heap.size)|(go_at_call 139;(with_reducible refine (D6 c nc pc lc cc _ (hc.ext ag) rc).mono ?_);rintro e w3 ⟨rfl,hx⟩;rw[SC.out];(have hx2:ac w w3:=ac.step ag hx);obtain⟨_,⟨_,_,_⟩,⟨_,_,_⟩,_,_,_⟩:=cM hx w.heap.size))
 by_cases h0:0<=q
 ·go_wp2;all_goals
   go_ret;refine⟨?_,ag⟩;rw[RES.out,if_pos h0];refine congrArg (λn=>Ending.returned (.int .i64 n)) ?_;show _=_;omega
 ·have CM:Hid (ej (ai (cK [a,a])) (ai (cK [b,b,c]))=r):=by
   have e1:cK [a,a]=a.z*a.z:=by simp[cK]
   have e2:cK [b,b,c]=b.z*b.z*c.z:=by simp[cK]
   have f1:small (cK [a,a])=true:=S1.out 2;have f2:small (cK [b,b,c])=true:=S2.out 3;show ej (ai (cK [a,a])) (ai (cK [b,b,c]))=r;rw[Nx f1 f2,e1,e2,R.out]
  go_wp2_with fail
  go_region_held3 (λw'=>w'.cell? ⟨w.heap.size,0,none⟩=some (.bool na)/\w'.cell? ⟨w.heap.size,1,none⟩=some (.slice pa la ca)/\w'.cell? ⟨w.heap.size+1,0,none⟩=some (.bool nb)/\w'.cell? ⟨w.heap.size+1,1,none⟩=some (.slice pb lb cb)/\w'.cell? ⟨w.heap.size+2,0,none⟩=some (.bool nc)/\w'.cell? ⟨w.heap.size+2,1,none⟩=some (.slice pc lc cc)) (refine⟨?_,?_,?_,?_,?_,?_⟩<;>go_simp) (first|(go_at_call 150;(with_reducible refine (a4Y a a _ 2 _ (by repeat (first|exact Vj _ (ha.ext ag) (ha.ext ag) ra ra (by first|rfl|simp)|refine iN.drew ?_|refine iN.more ?_ _)) S1.out).mono ?_);rintro e w4 ⟨n4,p4,l4,c4,rfl,hnr4,hnew4,hx4⟩;(have hx5:ac w w4:=ac.step ag hx4);obtain⟨_,⟨_,_,_⟩,⟨_,_,_⟩,_,_,_⟩:=cM hx4 w.heap.size)|(go_at_call 150;(with_reducible refine (a4Z b b c _ 3 _ (by repeat (first|exact Vi _ (hb.ext ag) (hb.ext ag) (hc.ext ag) rb rb rc (by first|rfl|simp)|refine iN.drew ?_|refine iN.more ?_ _|refine iN.ext ?_ hx4)) S2.out).mono ?_);rintro e w5 ⟨n5,p5,l5,c5,rfl,hnr5,hnew5,hx6⟩;(have hx7:ac w4 w5:=ac.step ag hx6);(have hx8:ac w w5:=ac.step hx5 hx7);obtain⟨_,⟨_,_,_⟩,⟨_,_,_⟩,_,_,_⟩:=cM hx6 w.heap.size)|(go_at_call 145;refine (CH _ _ _ _ _ _ _ _ _ _ _ (hnr4.ext ag) (hnr5.ext ag)).mono ?_;rintro e w6 ⟨rfl,hx9⟩;rw[CM.out];(have hx10:ac w w6:=ac.step ag hx9);obtain⟨_,⟨_,_,_⟩,⟨_,_,_⟩,_,_,_⟩:=cM hx9 w.heap.size))
  go_wp2;all_goals
   go_ret;refine⟨?_,ag⟩;rw[RES.out,if_neg (by omega)];refine congrArg (λn=>Ending.returned (.int .i64 n)) ?_;show _=_;first|rfl|exact IntWalk.i64_in _ (by omega)
end
set_option maxHeartbeats 1000000
set_option maxRecDepth 100000
section
theorem a4V(a b c:Nm)(na nb nc:Bool)(pa pb pc:Option Addr)(la ca lb cb lc cc A B C:Nat)(w:World)(ha:NR w na pa la ca a)(hb:NR w nb pb lb cb b)(hc:NR w nc pc lc cc c)(ra:a.right=true)(rb:b.right=true)(rc:c.right=true)
  (s1:∀k,small (cK ([a,a].take k))=true) (s2:∀k,small (cK ([b,b,c].take k))=true)
  (a0:w.cell? ⟨A,0,none⟩=some (.bool na)) (a1:w.cell? ⟨A,1,none⟩=some (.slice pa la ca)) (b0:w.cell? ⟨B,0,none⟩=some (.bool nb)) (b1:w.cell? ⟨B,1,none⟩=some (.slice pb lb cb)) (c0:w.cell? ⟨C,0,none⟩=some (.bool nc)) (c1:w.cell? ⟨C,1,none⟩=some (.slice pc lc cc)) :
  Calls Tryz.prog 302 #[.pointer (some ⟨A,0,none⟩),.pointer (some ⟨B,0,none⟩),.pointer (some ⟨C,0,none⟩)] w λe w'=>e=.returned (.int .i64 (cO a.z b.z c.z))/\ac w w':=by
 have S1:=Lib.hid s1;have S2:=Lib.hid s2;clear s1 s2;go_enter Tryz.func302,Tryz.ntmps302;go_wp2_with fail;refine (a4X a b c _ _ _ _ _ _ _ _ _ _ _ _ _ ha hb hc ra rb rc S1.out S2.out).mono ?_;rintro e w1 ⟨rfl,hx⟩;go_wp2;go_ret;exact⟨rfl,hx⟩
theorem a4W(a b c:Nm)(na nb nc:Bool)(pa pb pc:Option Addr)(la ca lb cb lc cc A B C:Nat)(w:World)(ha:NR w na pa la ca a)(hb:NR w nb pb lb cb b)(hc:NR w nc pc lc cc c)(ra:a.right=true)(rb:b.right=true)(rc:c.right=true)
  (s1:∀k,small (cK ([a,a].take k))=true) (s2:∀k,small (cK ([b,b,c].take k))=true)
  (a0:w.cell? ⟨A,0,none⟩=some (.bool na)) (a1:w.cell? ⟨A,1,none⟩=some (.slice pa la ca)) (b0:w.cell? ⟨B,0,none⟩=some (.bool nb)) (b1:w.cell? ⟨B,1,none⟩=some (.slice pb lb cb)) (c0:w.cell? ⟨C,0,none⟩=some (.bool nc)) (c1:w.cell? ⟨C,1,none⟩=some (.slice pc lc cc)) :
  Calls Tryz.prog 146 #[.func (.func 302) #[] #[.pointer (some ⟨A,0,none⟩),.pointer (some ⟨B,0,none⟩),.pointer (some ⟨C,0,none⟩)]] w λe w'=>e=.returned (.int .i64 (cO a.z b.z c.z))/\ac w w':=by
 have S1:=Lib.hid s1;have S2:=Lib.hid s2;clear s1 s2;have hmf:∀(fn:Fn) (first cap:Array Value) (w:World),(Instr.makeFunc fn first cap).run Tryz.prog w=.ok (.func fn first cap) w:=λ_ _ _ _=>rfl
 have hA:=World.block_lt_of_cell? w _ a0;have hB:=World.block_lt_of_cell? w _ b0;have hC:=World.block_lt_of_cell? w _ c0;have hx0:ac w (w.alloc (.cells #[.int .i64 0] 3)):=ag;go_enter_defers Tryz.func146,Tryz.ntmps146;go_wp2_with fail
 refine (a4V a b c _ _ _ _ _ _ _ _ _ _ _ _ A B C _ (ha.ext hx0) (hb.ext hx0) (hc.ext hx0) ra rb rc S1.out S2.out ((hx0.cell (p:=⟨A,0,none⟩) hA).trans a0) ((hx0.cell (p:=⟨A,1,none⟩) hA).trans a1) ((hx0.cell (p:=⟨B,0,none⟩) hB).trans b0) ((hx0.cell (p:=⟨B,1,none⟩) hB).trans b1) ((hx0.cell (p:=⟨C,0,none⟩) hC).trans c0) ((hx0.cell (p:=⟨C,1,none⟩) hC).trans c1)).mono ?_;rintro e w1 ⟨rfl,hx⟩;have hx1:ac w w1:=ac.step hx0 hx;obtain⟨_,_,hk_w1_0,_⟩:=vM hx w.heap.size;go_wp2_with fail;refine leaves_cons (f:=211) (args:=#[.pointer (some ⟨w.heap.size,0,none⟩)]) (by simp) (by simp[go_sem]) ?_
 refine (catch_idle ⟨w.heap.size,0,none⟩ _).mono ?_;rintro e u' w'' ⟨rfl,rfl,rfl⟩;simp[Leaves,settle,results,Tryz.results146,go_sem,hk_w1_0];exact ag
end
set_option maxHeartbeats 2000000
set_option maxRecDepth 100000
section
def iG(a:Nm):Bool:=a.right&&decide (a.d.length<=20)
def lW(a b c:Nm):Int:=if iG a&&(iG b&&iG c)&&!c.neg then cO a.z b.z c.z else 0
theorem a1J(a:Nm):a.z.natAbs=val a.d:=by unfold Nm.z;split<;>omega
theorem Ua:small 1=true:=by
 unfold small;rw[decide_eq_true_eq];exact Nat.one_lt_pow (by decide) (by decide)
theorem pJ{z:Int}{k:Nat}(h:z.natAbs<4294967296 ^ k)(hk:k<=64):small z=true:=by
 unfold small;rw[decide_eq_true_eq];exact Nat.lt_of_lt_of_le h (Nat.pow_le_pow_right (by decide) hk)
theorem yG{a:Nm}(hd:ao a.d)(h:iG a=true):a.z.natAbs<4294967296 ^ 20:=by
 simp only[iG,Bool.and_eq_true,decide_eq_true_eq] at h;rw[a1J];exact Nat.lt_of_lt_of_le (ip hd) (Nat.pow_le_pow_right (by decide) h.2)
theorem Cm{x y:Int}{m n:Nat}(hx:x.natAbs<4294967296 ^ m)(hy:y.natAbs<4294967296 ^ n):(x*y).natAbs<4294967296 ^ (m+n):=by
 rw[Int.natAbs_mul,Nat.pow_add];exact Nat.mul_lt_mul'' hx hy
theorem a6k{a b:Nm}{m n:Nat}(ha:a.z.natAbs<4294967296 ^ m)(hb:b.z.natAbs<4294967296 ^ n)(hk:m+n<=64):∀k,small (cK ([a,b].take k))=true:=by
 intro k;match k with
 | 0=>exact Ua
 | 1 =>
  have e:cK ([a,b].take 1)=a.z:=by simp[cK]
  rw[e];exact pJ ha (by omega)
 | k+2 =>
  have e:cK ([a,b].take (k+2))=a.z*b.z:=by simp[cK]
  rw[e];exact pJ (Cm ha hb) hk
theorem a6j{a b c:Nm}{m n o:Nat}(ha:a.z.natAbs<4294967296 ^ m)(hb:b.z.natAbs<4294967296 ^ n)(hc:c.z.natAbs<4294967296 ^ o)(hk:m+n+o<=64):∀k,small (cK ([a,b,c].take k))=true:=by
 intro k;match k with
 | 0=>exact Ua
 | 1 =>
  have e:cK ([a,b,c].take 1)=a.z:=by simp[cK]
  rw[e];exact pJ ha (by omega)
 | 2 =>
  have e:cK ([a,b,c].take 2)=a.z*b.z:=by simp[cK]
  rw[e];exact pJ (Cm ha hb) (by omega)
 | k+3 =>
  have e:cK ([a,b,c].take (k+3))=a.z*b.z*c.z:=by simp[cK]
  rw[e];exact pJ (Cm (Cm ha hb) hc) hk
def xE(w:World)(b:Nat)(l:List Nm):Prop :=
 b<w.heap.size/\∀i a,l[i]? = some a->∃n p li c,w.cell? ⟨b,i*2,none⟩=some (.bool n)/\w.cell? ⟨b,i*2+1,none⟩=some (.slice p li c)/\NR w n p li c a
theorem xE.ext{w w':World}{b:Nat}{l:List Nm}(h:xE w b l)(hx:ac w w'):xE w' b l:=by
 refine⟨Nat.lt_of_lt_of_le h.1 hx.size,λi a hi=>?_⟩;obtain⟨n,p,li,c,h1,h2,h3⟩:=h.2 i a hi;exact⟨n,p,li,c,by rw[hx.cell (p:=⟨b,i*2,none⟩) h.1];exact h1,by rw[hx.cell (p:=⟨b,i*2+1,none⟩) h.1];exact h2,h3.ext hx⟩
theorem Vh{W:World}{n1 n2 n3:Bool}{p1 p2 p3:Option Addr}{l1 c1 l2 c2 l3 c3 B:Nat}{a b c:Nm}(T:TypeId)(h1:NR W n1 p1 l1 c1 a)(h2:NR W n2 p2 l2 c2 b)(h3:NR W n3 p3 l3 c3 c)(hB:B=W.heap.size) :
  xE (W.alloc (.cells #[.bool n1,.slice p1 l1 c1,.bool n2,.slice p2 l2 c2,.bool n3,.slice p3 l3 c3] T)) B [a,b,c]:=by
 subst hB;have hh:=heap_alloc_new W (.cells #[.bool n1,.slice p1 l1 c1,.bool n2,.slice p2 l2 c2,.bool n3,.slice p3 l3 c3] T);refine⟨by simp,λi x hi=>?_⟩;match i,hi with
 | 0,hi =>
  simp only[List.getElem?_cons_zero,Option.some.injEq] at hi;subst hi;exact⟨n1,p1,l1,c1,by rw[cell_of_row _ _ _ _ _ _ hh];rfl,by rw[cell_of_row _ _ _ _ _ _ hh];rfl,h1.alloc _⟩
 | 1,hi =>
  simp only[List.getElem?_cons_succ,List.getElem?_cons_zero,Option.some.injEq] at hi;subst hi;exact⟨n2,p2,l2,c2,by rw[cell_of_row _ _ _ _ _ _ hh];rfl,by rw[cell_of_row _ _ _ _ _ _ hh];rfl,h2.alloc _⟩
 | 2,hi =>
  simp only[List.getElem?_cons_succ,List.getElem?_cons_zero,Option.some.injEq] at hi;subst hi;exact⟨n3,p3,l3,c3,by rw[cell_of_row _ _ _ _ _ _ hh];rfl,by rw[cell_of_row _ _ _ _ _ _ hh];rfl,h3.alloc _⟩
 | i+3,hi=>simp at hi
theorem TZ{a b c:Nm}(k:Nat)(x:Nm)(hx:[a,b,c][k]? = some x)(h:iG x=false):lW a b c=0:=by
 unfold lW;match k,hx with|0,hx=>simp only[List.getElem?_cons_zero,Option.some.injEq] at hx;subst hx;simp[h]|1,hx=>simp only[List.getElem?_cons_succ,List.getElem?_cons_zero,Option.some.injEq] at hx;subst hx;simp[h]|2,hx=>simp only[List.getElem?_cons_succ,List.getElem?_cons_zero,Option.some.injEq] at hx;subst hx;simp[h]|k+3,hx=>simp at hx
theorem a4U(a b c:Nm)(na nb nc:Bool)(pa pb pc:Option Addr)(la ca lb cb lc cc:Nat)(w:World)(ha:NR w na pa la ca a)(hb:NR w nb pb lb cb b)(hc:NR w nc pc lc cc c) :
  Calls Tryz.prog 295 #[.agg #[.bool na,.slice pa la ca],.agg #[.bool nb,.slice pb lb cb],.agg #[.bool nc,.slice pc lc cc]] w λe w'=>e=.returned (.int .i64 (lW a b c))/\ac w w':=by
 have hmf:∀(fn:Fn) (first cap:Array Value) (w:World),(Instr.makeFunc fn first cap).run Tryz.prog w=.ok (.func fn first cap) w:=λ_ _ _ _=>rfl
 go_enter Tryz.func295,Tryz.ntmps295;go_wp2_with fail;obtain⟨w1,W1⟩:∃w1,Hid ((((w.alloc (.cells #[.bool na,.slice pa la ca] 83)).alloc (.cells #[.bool nb,.slice pb lb cb] 83)).alloc (.cells #[.bool nc,.slice pc lc cc] 83)).alloc (.cells #[.bool na,.slice pa la ca,.bool nb,.slice pb lb cb,.bool nc,.slice pc lc cc] 83)=w1):=⟨_,rfl⟩;rw[W1.out];have NL:xE w1 (w.heap.size+3) [a,b,c]:=by
  rw[<- W1.out];exact Vh _ (ha.ext ag) (hb.ext ag) (hc.ext ag) (by simp)
 have hx1:ac w w1:=by rw[<- W1.out];exact ag
 have a0:w1.cell? ⟨w.heap.size,0,none⟩=some (.bool na):=by rw[<- W1.out];go_simp
 have a1:w1.cell? ⟨w.heap.size,1,none⟩=some (.slice pa la ca):=by rw[<- W1.out];go_simp
 have b0:w1.cell? ⟨w.heap.size+1,0,none⟩=some (.bool nb):=by rw[<- W1.out];go_simp
 have b1:w1.cell? ⟨w.heap.size+1,1,none⟩=some (.slice pb lb cb):=by rw[<- W1.out];go_simp
 have c0:w1.cell? ⟨w.heap.size+2,0,none⟩=some (.bool nc):=by rw[<- W1.out];go_simp
 have c1:w1.cell? ⟨w.heap.size+2,1,none⟩=some (.slice pc lc cc):=by rw[<- W1.out];go_simp
 have hz1:w.heap.size+4<=w1.heap.size:=by rw[<- W1.out];simp
 have HNL:=Lib.hid NL;have A0:=Lib.hid a0;have A1:=Lib.hid a1;have B0:=Lib.hid b0;have B1:=Lib.hid b1;have C0:=Lib.hid c0;have C1:=Lib.hid c1;clear NL a0 a1 b0 b1 c0 c1;go_loopw [14] (λi wr=>∃k:Nat,k<=3/\i=.int .i64 (k:Int)/\(∀j x,j<k->[a,b,c][j]? = some x->iG x=true)/\ac w1 wr) (λi _=>3-(intOf i).toNat)
 case atStart=>exact⟨0,by omega,rfl,λj x hj _=>absurd hj (Nat.not_lt_zero j),Below.refl _ _⟩
 case round =>
  obtain⟨k,hk,rfl,hgood,hx⟩:=hrel;have GOOD:=Lib.hid hgood;clear hgood;have hx2:=ac.step hx1 hx;have hzr:w.heap.size+4<=wr.heap.size:=Nat.le_trans hz1 hx.size;by_cases hlt:k<3
  ·obtain ⟨x, XX⟩ : ∃ x, Hid ([a, b, c][k]? = some x) := ⟨[a, b, c][k], List.getElem?_eq_getElem hlt⟩;obtain⟨n,p,l,cp,e0,e1,hnx⟩:=(HNL.out.ext hx).2 k x XX.out;have hlen:=hnx.2.1;have hlc:=hnx.2.2.le;have hcm:=hnx.2.2.max;have HLEN:=Lib.hid hlen;have hl64:l<=9223372036854775807:=by omega
   clear hlen;by_cases rx:x.right=true
   ·by_cases hl : l <= 20
    ·have GX:Hid (iG x=true):=by
      show iG x=true;unfold iG;rw[rx,<- HLEN.out];simpa using hl
     go_wp2_with fail;refine (c9 x _ _ _ _ _ (hnx.ext ag)).mono ?_;rintro e w2 ⟨rfl,hx3⟩;rw[rx];have hx4:ac wr w2:=ac.step ag hx3;have hx5:ac w1 w2:=ac.step hx hx4;have q1:w2.cell? ⟨wr.heap.size,1,none⟩=some (.slice p l cp):=(hx3.cell (p:=⟨wr.heap.size,1,none⟩) (by simp)).trans (by go_simp);go_wp2;refine⟨⟨k+1,by omega,rfl,λj y hj hy=>?_,hx5⟩,by simp[intOf];omega⟩;rcases Nat.lt_or_ge j k with h|h
     ·exact GOOD.out j y h hy
     ·obtain rfl : j = k := by omega
      rw[XX.out] at hy;cases hy;exact GX.out
    ·have GX:Hid (lW a b c=0):=by
      refine TZ k x XX.out ?_;unfold iG;rw[rx,<- HLEN.out];simpa using hl
     go_wp2_with fail;refine (c9 x _ _ _ _ _ (hnx.ext ag)).mono ?_;rintro e w2 ⟨rfl,hx3⟩;rw[rx];have hx4:ac wr w2:=ac.step ag hx3;have hx5:ac w w2:=ac.step hx2 hx4;have q1:w2.cell? ⟨wr.heap.size,1,none⟩=some (.slice p l cp):=(hx3.cell (p:=⟨wr.heap.size,1,none⟩) (by simp)).trans (by go_simp);go_wp2;go_ret;exact⟨by rw[GX.out];rfl,hx5⟩
   ·have rx : x.right = false := by simpa using rx
    have GX:Hid (lW a b c=0):=by
     refine TZ k x XX.out ?_;unfold iG;rw[rx];rfl
    go_wp2_with fail;refine (c9 x _ _ _ _ _ (hnx.ext ag)).mono ?_;rintro e w2 ⟨rfl,hx3⟩;rw[rx];have hx4:ac wr w2:=ac.step ag hx3;have hx5:ac w w2:=ac.step hx2 hx4;go_wp2;go_ret;exact⟨by rw[GX.out];rfl,hx5⟩
  ·obtain rfl : k = 3 := by omega
   have ga:iG a=true:=GOOD.out 0 a (by omega) rfl;have gb:iG b=true:=GOOD.out 1 b (by omega) rfl;have gc:iG c=true:=GOOD.out 2 c (by omega) rfl;have hc0:wr.cell? ⟨w.heap.size+2,0,none⟩=some (.bool nc):=(hx.cell (p:=⟨w.heap.size+2,0,none⟩) (show w.heap.size+2<w1.heap.size by omega)).trans C0.out;cases hneg:c.neg with
   | true =>
    have S:Hid (lW a b c=0):=by
     show lW a b c=0;simp[lW,hneg]
    have hnc:nc=true:=hc.1.trans hneg;subst hnc;clear hneg;go_wp2;go_ret;exact⟨by rw[S.out];rfl,hx2⟩
   | false =>
    have S:Hid (lW a b c=cO a.z b.z c.z):=by
     show lW a b c=_;simp[lW,hneg,ga,gb,gc]
    have hnc:nc=false:=hc.1.trans hneg;subst hnc;have ra:a.right=true:=by simp only[iG,Bool.and_eq_true] at ga;exact ga.1
    have rb:b.right=true:=by simp only[iG,Bool.and_eq_true] at gb;exact gb.1
    have rc:c.right=true:=by simp only[iG,Bool.and_eq_true] at gc;exact gc.1
    have s1:=Lib.hid (a6k (yG ha.2.2.dig ga) (yG ha.2.2.dig ga) (by omega));have s2:=Lib.hid (a6j (yG hb.2.2.dig gb) (yG hb.2.2.dig gb) (yG hc.2.2.dig gc) (by omega));clear hneg ga gb gc;go_wp2_with fail
    refine (a4W a b c _ _ _ _ _ _ _ _ _ _ _ _ _ _ _ _ (ha.ext hx2) (hb.ext hx2) (hc.ext hx2) ra rb rc s1.out s2.out ((hx.cell (p:=⟨w.heap.size,0,none⟩) (show w.heap.size<w1.heap.size by omega)).trans A0.out) ((hx.cell (p:=⟨w.heap.size,1,none⟩) (show w.heap.size<w1.heap.size by omega)).trans A1.out) ((hx.cell (p:=⟨w.heap.size+1,0,none⟩) (show w.heap.size+1<w1.heap.size by omega)).trans B0.out) ((hx.cell (p:=⟨w.heap.size+1,1,none⟩) (show w.heap.size+1<w1.heap.size by omega)).trans B1.out) hc0 ((hx.cell (p:=⟨w.heap.size+2,1,none⟩) (show w.heap.size+2<w1.heap.size by omega)).trans C1.out)).mono ?_
    rintro e w2 ⟨rfl,hx3⟩;have hx5:ac w w2:=ac.step hx2 hx3;go_wp2;go_ret;exact⟨by rw[S.out];rfl,hx5⟩
end
def Ly(w0 W:World)(x:Nm)(v:Value)(w':World):Prop:=∃n p l c,v=.agg #[.bool n,.slice p l c]/\NR w' n p l c x/\New w0 p/\ac W w'
theorem kJ.isN{w0 W:World}{x:Nm}{e:Ending}{w':World}(hz:w0.heap.size<=W.heap.size)(h:kJ W x e w'):∃v,e=.returned v/\Ly w0 W x v w':=by
 obtain⟨n,p,l,c,rfl,h1,h2,h3⟩:=h;exact⟨_,rfl,n,p,l,c,rfl,h1,h2.mono hz,h3⟩
theorem Lt{P:Program}{ops:Array Oper}{S:World->Prop}{Q:Act->World->Prop}{o:Oper}{l:List Oper}{a:Act}{own:List Nat}{F:World->Prop}(w0:World)(x:Nm)(hk:av o=2)(hw:Region.wanted o (yielded ops a.tmps)=true)
  (hg:∀w,F w->aL P o a w (Ly w0 w x))
  (h:∀n p l' c,New w0 p->aG P ops S Q l (a.put o.dst (.agg #[.bool n,.slice p l' c])) own (λw=>F w/\NR w n p l' c x)):aG P ops S Q (o::l) a own F :=
 U6 w0 x hk hw hg h
end Go.Proofs.YtghemgdfmldoeaaGreat
