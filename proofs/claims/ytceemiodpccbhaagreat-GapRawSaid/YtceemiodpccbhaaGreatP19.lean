import Derived.Test.YtceemiodpccbhaaGreatP18
set_option linter.unusedVariables false
set_option linter.unusedSimpArgs false

namespace Go.Proofs.YtceemiodpccbhaaGreat
open Go.RowKit

set_option maxHeartbeats 4000000
set_option maxRecDepth 100000
section
theorem r01_times(a b:List Nat)(pa pb:Option Addr)(la ca lb cb:Nat)(w:World)(ha:Row w pa ca a)(hb:Row w pb cb b)(hla:la=a.length)(hlb:lb=b.length)(hal:a.length<=64)(hbl:b.length<=64) :
  Calls Tryz.prog 236 #[.slice pa la ca,.slice pb lb cb] w (RetDigs w (val a*val b)):=by
 have la64':la<=64:=by omega
 have lb64':lb<=64:=by omega
 have HLA:=Lib.hid hla
 have HLB:=Lib.hid hlb
 clear hla hlb hal hbl
 obtain⟨i,hi,hz0,hz1,hz2⟩:=info_parts info32
 obtain⟨N,hN⟩:∃N,N=la+lb+1:=⟨_,rfl⟩
 have hN1:N<=la+lb+1:=Nat.le_of_eq hN
 have hN2:la+lb+1<=N:=Nat.le_of_eq hN.symm
 clear hN
 have bla:0<a.length->∀x,pa=some x->x.block≠w.heap.size:=by
  intro h0 x hx
  obtain⟨b',o,hp,hlt,_⟩:=ha.at h0
  rw[hp] at hx
  cases hx
  exact Nat.ne_of_lt hlt
 have blb:0<b.length->∀x,pb=some x->x.block≠w.heap.size:=by
  intro h0 x hx
  obtain⟨b',o,hp,hlt,_⟩:=hb.at h0
  rw[hp] at hx
  cases hx
  exact Nat.ne_of_lt hlt
 have BLA:=Lib.hid bla
 have BLB:=Lib.hid blb
 clear bla blb
 go_enter Tryz.func236,Tryz.ntmps236
 go_wp2_with (at_make;refine wpList_make_full _ rfl _ _ 34 rfl w.heap.size 140 i (.int .u32 0) 1 Tryz.underlying34 hi hz0 hz1 _ _ _ _ N rfl rfl (by omega) (by omega) (by rw[hz2];omega) (by unfold maxLen;omega) (Nat.le_refl _) ?_)
 intro w3 hown hgr
 rw[show (madeCells #[Value.int IntKind.u32 0] N).toList=enc (List.replicate N 0) from by rw[enc,List.map_replicate];exact toList_madeCells_one _ _] at hown
 have hx4:Ext w w3:=⟨hgr.os,hgr.tape,hgr.output,hgr.size,fun k hk=>hgr.block k hk (by simp)⟩
 have RA:=Lib.hid (ha.ext hx4)
 have RB:=Lib.hid (hb.ext hx4)
 clear hgr ha hb
 go_wp2_with fail
 go_loopw [6] (fun i wr=>∃(n:Nat) (o:List Nat),n<=la/\i=.int .i64 (n:Int)/\Dig o/\val o=val (a.take n)*val b/\Zeros o (n+lb)/\wr.ownsRow w.heap.size 140 1 (.slice (some ⟨w.heap.size,0,none⟩) N N) N (enc o)/\w3.grownBy wr (some w.heap.size)) (fun i _=>la-(intOf i).toNat)
 case atStart=>exact⟨0,_,Nat.zero_le _,rfl,fun x hx=>by rw[List.eq_of_mem_replicate hx];decide,by rw[val_replicate];simp[val],Zeros.replicate _ _,hown,⟨rfl,rfl,rfl,Nat.le_refl _,fun _ _ _=>rfl⟩⟩
 case round =>
  clear hown
  obtain⟨n,o,hn,rfl,hd,hv,hz,hown,hg⟩:=hrel
  by_cases hlt:n<la
  ·have RAw := RA.out.grown BLA.out hg
   obtain⟨ba,oa,rfl,hba,hca⟩:=RAw.at (by rw[<- HLA.out];omega)
   obtain⟨x,X⟩:∃x,Hid (a[n]?.getD 0=x):=⟨_,rfl⟩
   have hxd:x<4294967296:=by have:=RA.out.dig.getD n;rw[List.getD_eq_getElem?_getD,X.out] at this;exact this
   have M0:=Lib.hid (MulInv.start (a:=a) (b:=b) (i:=n) (x:=x) hd hv)
   clear hca hd hv RAw
   have V:=Lib.hid hz
   clear hz
   go_wp2_with fail
   go_loopw [7,8] (fun cr kk wi=>∃(k c:Nat) (q:List Nat),k<=lb+1/\(lb<k->c<=0)/\kk=.int .i64 (k:Int)/\cr=.int .u64 (c:Int)/\MulInv a b q n k x c/\Zeros q (n+max k lb)/\wi.ownsRow w.heap.size 140 1 (.slice (some ⟨w.heap.size,0,none⟩) N N) N (enc q)/\w3.grownBy wi (some w.heap.size)) (fun _ kk _=>lb+1-(intOf kk).toNat)
   case atStart=>exact⟨0,0,o,Nat.zero_le _,by omega,rfl,rfl,M0.out,by rw[Nat.zero_max];exact V.out,hown,hg⟩
   case round =>
    clear hown hg
    obtain⟨k,c,q,hk,hc0,rfl,rfl,hm,hz,hown,hg⟩:=hrel
    have HC0:=Lib.hid hc0
    clear hc0
    obtain⟨y,Y⟩:∃y,Hid (b[k]?.getD 0=y):=⟨_,rfl⟩
    have hyd:y<4294967296:=by have:=RB.out.dig.getD k;rw[List.getD_eq_getElem?_getD,Y.out] at this;exact this
    obtain⟨u,U⟩:∃u,Hid (q[n+k]?.getD 0=u):=⟨_,rfl⟩
    have hud:u<4294967296:=by have:=hm.1.getD (n+k);rw[List.getD_eq_getElem?_getD,U.out] at this;exact this
    have hql:=own_len hown
    obtain⟨m,MM⟩:∃m,Hid (x*y=m):=⟨_,rfl⟩
    have hmb:m<=18446744065119617025:=by rw[<- MM.out];exact Nat.mul_le_mul (show x<=4294967295 by omega) (show y<=4294967295 by omega)
    have hcd:=hm.2.1
    by_cases hkl:k<lb
    ·have RBw := RB.out.grown BLB.out hg
     obtain⟨bb,ob,rfl,hbb,hcb⟩:=RBw.at (by rw[<- HLB.out];omega)
     have hcb1:=hcb k (by rw[<- HLB.out];omega)
     rw[Y.out] at hcb1
     have RAw:=RA.out.grown BLA.out hg
     obtain⟨ba',oa',hpa,hba',hca⟩:=RAw.at (by rw[<- HLA.out];omega)
     cases hpa
     have hca1:=hca n (by rw[<- HLA.out];omega)
     rw[X.out] at hca1
     have hcu:=own_cell hown (n+k) u (by omega) U.out
     have hfu:=hown.frozenAt (n+k)
     have hme:(x:Int)*(y:Int)=(m:Int):=by rw[<- MM.out];simp
     have M1:=Lib.hid (hm.step (by omega) hxd Y.out hyd U.out hud MM.out)
     have ST:Hid (∀nq,((wr.drewN nq).setCell ⟨w.heap.size,n+k,none⟩ (.int .u32 (((c+(u+m))%4294967296:Nat):Int))).ownsRow w.heap.size 140 1 (.slice (some ⟨w.heap.size,0,none⟩) N N) N (enc (q.set (n+k) ((c+(u+m))%4294967296)))/\w3.grownBy ((wr.drewN nq).setCell ⟨w.heap.size,n+k,none⟩ (.int .u32 (((c+(u+m))%4294967296:Nat):Int))) (some w.heap.size)):=by
      intro nq
      have h1:(wr.drewN nq).ownsRow w.heap.size 140 1 (.slice (some ⟨w.heap.size,0,none⟩) N N) N (enc q):=hown
      have h2:w3.grownBy (wr.drewN nq) (some w.heap.size):=⟨hg.os,hg.tape,hg.output,hg.size,hg.block⟩
      have h3:=own_set h1 (n+k) ((c+(u+m))%4294967296)
      exact⟨h3.1,grownBy_trans h2 h3.2⟩
     have Tryz1:=Lib.hid ((hz.mono (show n+max k lb<=n+max (k+1) lb by omega)).set (j:=n+k) (d:=(c+(u+m))%4294967296) (by omega))
     clear hcb hca hm hz hql hown hg RAw RBw
     go_wp2
     go_quiet (fail)
     go_wp2
     have e:(((c+(u+m))%4294967296:Nat):Int)=((c:Int)+(u:Int)+(m:Int))%4294967296:=by omega
     have s1:=ST.out
     rw[e] at s1
     exact⟨⟨k+1,(c+(u+m))/4294967296,_,by omega,by omega,rfl,ret_u64 (by omega),M1.out,Tryz1.out,(s1 _).1,(s1 _).2⟩,by simp[intOf];omega⟩
    ·have hk2 : lb <= k := by omega
     by_cases hcz:c=0
     ·subst hcz
      have DONE:=Lib.hid (hm.done (by rw[<- HLB.out];exact hk2) X.out)
      have DG:=Lib.hid hm.1
      have HZ:=Lib.hid (hz.mono (show n+max k lb<=n+1+lb by omega))
      have OWN:=Lib.hid hown
      have HG:=Lib.hid hg
      clear hm hz hown hg hql
      go_wp2
      exact⟨⟨n+1,_,by omega,rfl,DG.out,DONE.out,HZ.out,OWN.out,HG.out⟩,by simp[intOf];omega⟩
     ·have hcp : 0 < c := by omega
      clear hcz
      obtain rfl:k=lb:=by
       rcases Nat.lt_or_ge lb k with h|h
       ·have:=HC0.out h;omega
       ·omega
      have y0:y<=0:=by rw[<- Y.out,List.getElem?_eq_none (by rw[<- HLB.out];exact Nat.le_refl _)];exact Nat.le_refl _
      have u0:u<=0:=by rw[<- U.out];exact Nat.le_of_eq (hz _ (by omega))
      have m0:m<=0:=by rw[<- MM.out,Nat.le_zero.1 y0];exact Nat.le_refl _
      have hcu:=own_cell hown (n+k) u (by omega) U.out
      have hfu:=hown.frozenAt (n+k)
      have M1:=Lib.hid (hm.step (by omega) hxd Y.out hyd U.out hud MM.out)
      have hst:=own_set hown (n+k) ((c+(u+m))%4294967296)
      have ST:=Lib.hid hst.1
      have SG:=Lib.hid (grownBy_trans hg hst.2)
      have Tryz1:=Lib.hid ((hz.mono (show n+max k k<=n+max (k+1) k by omega)).set (j:=n+k) (d:=(c+(u+m))%4294967296) (by omega))
      clear hm hst hz hql hown hg
      go_wp2
      have e:(((c+(u+m))%4294967296:Nat):Int)=(c:Int)+(u:Int):=by omega
      have s1:=ST.out
      have s2:=SG.out
      rw[e] at s1 s2
      exact⟨⟨k+1,(c+(u+m))/4294967296,_,by omega,by omega,rfl,ret_u64 (by omega),M1.out,Tryz1.out,s1,s2⟩,by simp[intOf]⟩
  ·obtain rfl : n = la := by omega
   obtain⟨p',c',hv',hrow,hnew⟩:=row_of_owns hown hd
   have hql:=own_len hown
   obtain⟨rfl,rfl⟩:some (⟨w.heap.size,0,none⟩:Addr)=p'/\N=c':=by
    simp only[Value.slice.injEq] at hv'
    exact⟨hv'.1,hv'.2.2⟩
   have V:=Lib.hid (show val o=val a*val b by rw[hv,HLA.out,List.take_of_length_le (Nat.le_refl _)])
   have ROW:=Lib.hid hrow
   have HQ:=Lib.hid hql
   have hx5:Ext w wr:=⟨hg.os.trans hx4.os,hg.tape.trans hx4.tape,hg.output.trans hx4.output,Nat.le_trans hx4.size hg.size,fun k hk=>(hg.block k (by have:=hx4.size;omega) (by simp;omega)).trans (hx4.block k hk)⟩
   clear hrow hql hv' hown hd hv hz hg
   go_wp2_with fail
   refine (r01_trim o _ _ _ _ ROW.out HQ.out.symm).mono ?_
   rintro e w4 ⟨rfl,hrow1,hx6⟩
   have hx7:Ext w w4:=Ext.step hx5 hx6
   have T:trim o=digs (val a*val b):=by rw[<- V.out];rfl
   go_wp2
   go_ret
   rw[T] at hrow1
   exact⟨_,N,rfl,hrow1,hnew,hx7⟩
theorem r01_Mul(a b:Nm)(na nb:Bool)(pa pb:Option Addr)(la ca lb cb:Nat)(w:World)(ha:NR w na pa la ca a)(hb:NR w nb pb lb cb b) :
  Calls Tryz.prog 187 #[.agg #[.bool na,.slice pa la ca],.agg #[.bool nb,.slice pb lb cb]] w (RetNum w (mulP a b)):=by
 by_cases ra:a.right=true
 ·by_cases rb : b.right = true
  ·have la64 := ha.len ra
   have lb64:=hb.len rb
   have SP:Hid (madeP (na != nb) (digs (val a.d*val b.d))=mulP a b):=by
    rw[ha.1,hb.1];exact mulP_made ra rb (val_digs _)
   go_enter Tryz.func187,Tryz.ntmps187
   go_wp2_with fail
   refine (r01_Right a _ _ _ _ _ (ha.ext bxx)).mono ?_
   rintro e w1 ⟨rfl,hx⟩
   rw[ra]
   have hx0:Ext w w1:=Ext.step bxx hx
   obtain⟨_,⟨_,_,_⟩,⟨_,_,_⟩,_,_,_⟩:=keepK3 hx w.heap.size
   go_wp2_with fail
   refine (r01_Right b _ _ _ _ _ (hb.ext bxx)).mono ?_
   rintro e w2 ⟨rfl,hx2⟩
   rw[rb]
   have hx1:Ext w w2:=Ext.step hx0 hx2
   obtain⟨_,⟨_,_,_⟩,⟨_,_,_⟩,_,_,_⟩:=keepK3 hx2 w.heap.size
   go_wp2_with fail
   go_region_held3 (fun w'=>w'.cell? ⟨w.heap.size,0,none⟩=some (.bool na)/\w'.cell? ⟨w.heap.size,1,none⟩=some (.slice pa la ca)/\w'.cell? ⟨w.heap.size+1,0,none⟩=some (.bool nb)/\w'.cell? ⟨w.heap.size+1,1,none⟩=some (.slice pb lb cb)) (refine⟨?_,?_,?_,?_⟩<;>go_simp) (first|(go_at_call 236;refine (r01_times a.d b.d _ _ _ _ _ _ _ (ha.2.2.ext bxx) (hb.2.2.ext bxx) ha.2.1 hb.2.1 la64 lb64).mono ?_;rintro e w4 ⟨p,c,rfl,hrow,hnew,hx5⟩;(have hx6:Ext w w4:=Ext.step bxx hx5);obtain⟨_,⟨_,_,_⟩,⟨_,_,_⟩,_,_,_⟩:=keepK3 hx5 w.heap.size)|(go_at_call 131;refine (r01_made (na != nb) _ _ _ _ _ hrow rfl).mono ?_;rintro e w5 ⟨n',p',l',c',rfl,hnr,hnew',hx7⟩;(have hx8:Ext w w5:=Ext.step hx6 hx7);obtain⟨_,⟨_,_,_⟩,⟨_,_,_⟩,_,_,_⟩:=keepK3 hx7 w.heap.size))
   have HNR:NR w5 n' p' l' c' (mulP a b).1:=by rw[<- SP.out];exact hnr
   rw[SP.out]
   clear hnr
   go_wp2_with fail
   refine bodyPost_ret (v:=.tuple #[.agg #[.bool n',.slice p' l' c'],.bool (mulP a b).2]) (by simp[results,Tryz.results187,go_sem, *]) rfl ?_
   exact⟨n',p',l',c',rfl,(by repeat (first|assumption|refine NR.set ?_ (by assumption) _ (by first|(simp;done)|(simp;omega)|omega) _|refine NR.alloc ?_ _)),hnew'.mono (by omega),bxx⟩
  ·have rb : b.right = false := by simpa using rb
   have S:=Lib.hid (mulP_right (a:=a) rb)
   go_enter Tryz.func187,Tryz.ntmps187
   go_wp2_with fail
   refine (r01_Right a _ _ _ _ _ (ha.ext bxx)).mono ?_
   rintro e w1 ⟨rfl,hx⟩
   rw[ra]
   have hx0:Ext w w1:=Ext.step bxx hx
   obtain⟨_,⟨_,_,_⟩,⟨_,_,_⟩,_,_,_⟩:=keepK3 hx w.heap.size
   go_wp2_with fail
   refine (r01_Right b _ _ _ _ _ (hb.ext bxx)).mono ?_
   rintro e w2 ⟨rfl,hx2⟩
   rw[rb]
   have hx1:Ext w w2:=Ext.step hx0 hx2
   obtain⟨_,⟨_,_,_⟩,⟨_,_,_⟩,_,_,_⟩:=keepK3 hx2 w.heap.size
   go_wp2_with fail
   refine bodyPost_ret (v:=.tuple #[.agg #[.bool false,.slice none 0 0],.bool false]) (by simp[results,Tryz.results187,go_sem, *]) rfl ?_
   rw[S.out]
   exact⟨false,none,0,0,rfl,⟨rfl,rfl,Row.nil _⟩,New.none _,bxx⟩
 ·have ra : a.right = false := by simpa using ra
  have S:=Lib.hid (mulP_left (b:=b) ra)
  go_enter Tryz.func187,Tryz.ntmps187
  go_wp2_with fail
  refine (r01_Right a _ _ _ _ _ (ha.ext bxx)).mono ?_
  rintro e w1 ⟨rfl,hx⟩
  rw[ra]
  have hx0:Ext w w1:=Ext.step bxx hx
  obtain⟨_,⟨_,_,_⟩,⟨_,_,_⟩,_,_,_⟩:=keepK3 hx w.heap.size
  go_wp2_with fail
  refine bodyPost_ret (v:=.tuple #[.agg #[.bool false,.slice none 0 0],.bool false]) (by simp[results,Tryz.results187,go_sem, *]) rfl ?_
  rw[S.out]
  exact⟨false,none,0,0,rfl,⟨rfl,rfl,Row.nil _⟩,New.none _,bxx⟩
end

set_option maxHeartbeats 2000000
set_option maxRecDepth 100000
section
theorem Row.set'{w:World}{p:Option Addr}{c:Nat}{d:List Nat}(h:Row w p c d)(a:Addr)(hn:∀x,p=some x->x.block≠a.block)(v:Value):Row (w.setCell a v) p c d:=by
 refine⟨h.1,h.2.1,h.2.2.1,fun h0=>?_⟩
 obtain⟨b,o,hp,hlt,hc⟩:=h.2.2.2 h0
 refine⟨b,o,hp,by simpa[World.setCell] using hlt,fun i hi=>?_⟩
 have hb:=hn _ hp
 rw[<- hc i hi]
 exact World.cell?_of_block (Below.heap_setCell _ _ _ _ hb)
theorem NR.set'{w:World}{n:Bool}{p:Option Addr}{l c:Nat}{a:Nm}(h:NR w n p l c a)(x:Addr)(hn:∀y,p=some y->y.block≠x.block)(v:Value):NR (w.setCell x v) n p l c a :=
 ⟨h.1,h.2.1,h.2.2.set' x hn v⟩
theorem NR.zero(w:World):NR w false none 0 0 zero:=⟨rfl,rfl,Row.nil w⟩
theorem zero_z:zero.z=0:=rfl
theorem zero_right:zero.right=true:=rfl
def sgn(z:Int):Int:=cmpZ z 0
theorem cmpP_zero{a:Nm}(ra:a.right=true):cmpP a zero=sgn a.z:=by
 unfold cmpP
 rw[ra,zero_right,zero_z]
 rfl
theorem root_sign(a:Nm)(n:Bool)(p:Option Addr)(l c:Nat)(w:World)(h:NR w n p l c a)(ra:a.right=true) :
  Calls Tryz.prog 99 #[.agg #[.bool n,.slice p l c]] w fun e w'=>e=.returned (.int .i64 (sgn a.z))/\Ext w w':=by
 have S:=Lib.hid (cmpP_zero ra)
 go_enter Tryz.func99,Tryz.ntmps99
 go_wp2_with fail
 refine (num_Cmp a zero _ _ _ _ _ _ _ _ _ (h.ext bxx) (NR.zero _)).mono ?_
 rintro e w1 ⟨rfl,hx⟩
 rw[S.out]
 have hx0:Ext w w1:=Ext.step bxx hx
 go_wp2
 go_ret
 exact⟨rfl,hx0⟩
def prodZ(l:List Nm):Int:=l.foldl (fun z a=>z*a.z) 1
theorem prodZ_snoc(l:List Nm)(a:Nm):prodZ (l++[a])=prodZ l*a.z:=by simp[prodZ]
theorem prodZ_take(l:List Nm)(k:Nat)(a:Nm)(h:l[k]? = some a):prodZ (l.take (k+1))=prodZ (l.take k)*a.z:=by
 have hk:=(List.getElem?_eq_some_iff.1 h).1
 rw[List.take_succ_eq_append_getElem hk,prodZ_snoc]
 rw[List.getElem?_eq_getElem hk] at h
 cases h
 rfl
def NRs(w:World)(b:Nat)(l:List Nm):Prop :=
 b<w.heap.size/\∀i a,l[i]? = some a->a.right=true/\∃n p li c,w.cell? ⟨b,i*2,none⟩=some (.bool n)/\w.cell? ⟨b,i*2+1,none⟩=some (.slice p li c)/\NR w n p li c a
theorem NRs.ext{w w':World}{b:Nat}{l:List Nm}(h:NRs w b l)(hx:Ext w w'):NRs w' b l:=by
 refine⟨Nat.lt_of_lt_of_le h.1 hx.size,fun i a hi=>?_⟩
 obtain⟨hr,n,p,li,c,h1,h2,h3⟩:=h.2 i a hi
 exact⟨hr,n,p,li,c,by rw[hx.cell (p:=⟨b,i*2,none⟩) h.1];exact h1,by rw[hx.cell (p:=⟨b,i*2+1,none⟩) h.1];exact h2,h3.ext hx⟩
theorem mulP_small{a b:Nm}{z:Int}(ra:a.right=true)(rb:b.right=true)(hz:a.z*b.z=z)(hs:small z=true):mulP a b=(ofZ z,true):=by
 unfold mulP fit
 rw[ra,rb,hz,hs]
 rfl
theorem root_times(l:List Nm)(b:Nat)(n c:Nat)(w:World)(h:NRs w b l)(hn:n=l.length)(hl:l.length<=1000)(hs:∀k,small (prodZ (l.take k))=true) :
  Calls Tryz.prog 61 #[.slice (some ⟨b,0,none⟩) n c] w (RetN w (ofZ (prodZ l))):=by
 subst hn
 have HS:=Lib.hid hs
 clear hs
 have HN:=Lib.hid h
 have hb:=h.1
 clear h
 go_enter Tryz.func61,Tryz.ntmps61
 go_wp2_with fail
 refine (num_Of 1 _ (by omega) (by omega)).mono ?_
 rintro e w1 ⟨n1,p1,l1,c1,rfl,hnr,hnew,hx⟩
 have hx0:Ext w w1:=Ext.step bxx hx
 obtain⟨hz_w1,hl_w1_0,hk_w1_0,hf_w1_0⟩:=keepK1 hx w.heap.size
 go_wp2_with fail
 have r0:w1.cell? ⟨w.heap.size,0,none⟩=some (.bool false):=by go_simp
 have r1:w1.cell? ⟨w.heap.size,1,none⟩=some (.slice none 0 0):=by go_simp
 have rf:∀o,w1.frozen? ⟨w.heap.size,o,none⟩=false:=by intro o;go_simp
 obtain⟨g,G⟩:∃g,Hid (w1.heap.size=g):=⟨_,rfl⟩
 have hg0:w.heap.size<g:=by rw[<- G.out];exact hl_w1_0
 obtain⟨w2,W2⟩:∃w2,Hid (w1.alloc (.cells #[.bool n1,.slice p1 l1 c1] 36)=w2):=⟨_,rfl⟩
 rw[W2.out,G.out]
 have hx1:Ext w w2:=by rw[<- W2.out];exact bxx
 have hg1:g<w2.heap.size:=by rw[<- W2.out,<- G.out];simp
 have g0:w2.cell? ⟨g,0,none⟩=some (.bool n1):=by rw[<- W2.out,<- G.out];go_simp
 have g1:w2.cell? ⟨g,1,none⟩=some (.slice p1 l1 c1):=by rw[<- W2.out,<- G.out];go_simp
 have gf:∀o,w2.frozen? ⟨g,o,none⟩=false:=by intro o;rw[<- W2.out,<- G.out];go_simp
 have s0:w2.cell? ⟨w.heap.size,0,none⟩=some (.bool false):=by rw[<- W2.out];go_simp
 have s1:w2.cell? ⟨w.heap.size,1,none⟩=some (.slice none 0 0):=by rw[<- W2.out];go_simp
 have sf:∀o,w2.frozen? ⟨w.heap.size,o,none⟩=false:=by intro o;rw[<- W2.out];go_simp
 have hnr2:NR w2 n1 p1 l1 c1 (ofZ (prodZ (l.take 0))):=by rw[<- W2.out];exact hnr.alloc _
 have hnew2:∀x,p1=some x->w.heap.size<x.block:=fun x hx=>by have:=hnew x hx;simp at this;omega
 clear hnr hnew hx0 hk_w1_0 hf_w1_0 hl_w1_0 hz_w1 hx r0 r1 rf
 go_loopw [11] (fun i wr=>∃(k:Nat) (n':Bool) (p':Option Addr) (l' c':Nat),k<=l.length/\i=.int .i64 (k:Int)/\wr.cell? ⟨g,0,none⟩=some (.bool n')/\wr.cell? ⟨g,1,none⟩=some (.slice p' l' c')/\(∀o,wr.frozen? ⟨g,o,none⟩=false) /\
   NR wr n' p' l' c' (ofZ (prodZ (l.take k)))/\(∀x,p'=some x->w.heap.size<x.block)/\wr.cell? ⟨w.heap.size,0,none⟩=some (.bool false)/\wr.cell? ⟨w.heap.size,1,none⟩=some (.slice none 0 0)/\(∀o,wr.frozen? ⟨w.heap.size,o,none⟩=false)/\g<wr.heap.size/\Ext w wr) (fun i _=>l.length-(intOf i).toNat)
 case atStart=>exact⟨0,n1,p1,l1,c1,Nat.zero_le _,rfl,g0,g1,gf,hnr2,hnew2,s0,s1,sf,hg1,hx1⟩
 case round =>
  clear g0 g1 gf hnr2 hnew2 s0 s1 sf hg1 hx1
  obtain⟨k,n',p',l',c',hk,rfl,g0,g1,gf,hnr,hnew,s0,s1,sf,hg1,hx⟩:=hrel
  by_cases hlt:k<l.length
  ·have hb2 : b < wr.heap.size := Nat.lt_of_lt_of_le hb hx.size
   obtain⟨ra,n2,p2,l2,c2,e0,e1,hna⟩:=(HN.out.ext hx).2 k l[k] (List.getElem?_eq_getElem hlt)
   have PR:=Lib.hid (prodZ_take l k l[k] (List.getElem?_eq_getElem hlt))
   have HNW:=Lib.hid hnew
   clear hnew
   go_wp2_with fail
   have MP:=Lib.hid (mulP_small (ofZ_right (HS.out k)) ra (by rw[ofZ_z];exact PR.out.symm) (HS.out (k+1)))
   refine (num_Mul (ofZ (prodZ (l.take k))) l[k] _ _ _ _ _ _ _ _ _ (hnr.alloc _) (hna.alloc _)).mono ?_
   rintro e w3 ⟨n3,p3,l3,c3,rfl,hnr3,hnew3,hx3⟩
   rw[MP.out] at hnr3 ⊢
   have hx4:Ext wr w3:=Ext.step bxx hx3
   have hx5:Ext w w3:=Ext.step hx hx4
   have g0':w3.cell? ⟨g,0,none⟩=some (.bool n'):=(hx4.cell (p:=⟨g,0,none⟩) hg1).trans g0
   have g1':w3.cell? ⟨g,1,none⟩=some (.slice p' l' c'):=(hx4.cell (p:=⟨g,1,none⟩) hg1).trans g1
   have gf':∀o,w3.frozen? ⟨g,o,none⟩=false:=fun o=>(hx4.frozen (p:=⟨g,o,none⟩) hg1).trans (gf o)
   have hw0:w.heap.size<wr.heap.size:=by omega
   have s0':w3.cell? ⟨w.heap.size,0,none⟩=some (.bool false):=(hx4.cell (p:=⟨w.heap.size,0,none⟩) hw0).trans s0
   have s1':w3.cell? ⟨w.heap.size,1,none⟩=some (.slice none 0 0):=(hx4.cell (p:=⟨w.heap.size,1,none⟩) hw0).trans s1
   have sf':∀o,w3.frozen? ⟨w.heap.size,o,none⟩=false:=fun o=>(hx4.frozen (p:=⟨w.heap.size,o,none⟩) hw0).trans (sf o)
   have hg2:g<w3.heap.size:=Nat.lt_of_lt_of_le hg1 hx4.size
   have hw2:w.heap.size<w3.heap.size:=by omega
   have hnew4:∀x,p3=some x->wr.heap.size<x.block:=fun x hx=>by have:=hnew3 x hx;simp at this;omega
   have NEW:=Lib.hid hnew4
   clear hnew3 hnew4 g0 g1 gf s0 s1 sf hnr hna hx3 e0 e1
   go_wp2_with fail
   refine⟨⟨k+1,n3,p3,l3,c3,by omega,rfl,by go_simp,by go_simp,fun o=>by go_simp,?_,fun x hx=>by have:=NEW.out x hx;omega,by go_simp,by go_simp,fun o=>by go_simp,by simp;omega,bxx⟩,by simp[intOf];omega⟩
   refine (NR.set' (NR.set' hnr3 _ ?_ _) _ ?_ _).alloc _
   ·intro y hy;have:=NEW.out y hy;simp;omega
   ·intro y hy;have:=NEW.out y hy;simp;omega
  ·obtain rfl : k = l.length := by omega
   rw[List.take_of_length_le (Nat.le_refl _)] at hnr
   have HNW:=Lib.hid hnew
   have hw0:w.heap.size<wr.heap.size:=by omega
   clear hnew
   go_wp2_with fail
   refine bodyPost_ret (v:=.agg #[.bool n',.slice p' l' c']) (by simp[results,Tryz.results61,go_sem, *]) rfl ?_
   refine⟨n',p',l',c',rfl,?_,fun x hx=>Nat.le_of_lt (HNW.out x hx),bxx⟩
   refine NR.set' (NR.set' hnr _ ?_ _) _ ?_ _
   ·intro y hy;have:=HNW.out y hy;simp;omega
   ·intro y hy;have:=HNW.out y hy;simp;omega
end

set_option maxHeartbeats 4000000
set_option maxRecDepth 100000
section
def sideZ(a b c:Int):Int:=if 0<=sgn a*(sgn b*sgn c) then max (min (sgn a+sgn b*sgn c) 1) (-1) else sgn a*cmpZ (a*a) (b*b*c)
theorem cmpZ_cases(a b:Int):cmpZ a b = -1\/cmpZ a b=0\/cmpZ a b=1:=by
 unfold cmpZ
 split
 ·exact .inl rfl
 ·split
  ·exact .inr (.inl rfl)
  ·exact .inr (.inr rfl)
theorem sgn_bd(a:Int) : -1<=sgn a/\sgn a<=1:=by
 rcases cmpZ_cases a 0 with h|h|h<;>rw[sgn,h]<;>omega
theorem cmpZ_bd(a b:Int) : -1<=cmpZ a b/\cmpZ a b<=1:=by
 rcases cmpZ_cases a b with h|h|h<;>rw[h]<;>omega
theorem unit_mul{a b:Int}(ha : -1<=a/\a<=1)(hb : -1<=b/\b<=1) : -1<=a*b/\a*b<=1:=by
 obtain rfl|rfl|rfl:a = -1\/a=0\/a=1:=by omega
 all_goals omega
theorem cmpP_side{x y:Int}(hx:small x=true)(hy:small y=true):cmpP (ofZ x) (ofZ y)=cmpZ x y:=by
 unfold cmpP
 rw[ofZ_right hx,ofZ_right hy,ofZ_z,ofZ_z]
 rfl
theorem NRs.drew{w:World}{b:Nat}{l:List Nm}(h:NRs w b l):NRs w.drew b l:=h.ext (Below.refl _ _).drew
theorem NRs.more{w:World}{b:Nat}{l:List Nm}(h:NRs w b l)(o:Obj):NRs (w.alloc o) b l:=h.ext ((Below.refl _ _).alloc (Nat.le_refl _) _)
theorem NRs_two{W:World}{n1 n2:Bool}{p1 p2:Option Addr}{l1 c1 l2 c2 B:Nat}{a b:Nm}(T:TypeId)(h1:NR W n1 p1 l1 c1 a)(h2:NR W n2 p2 l2 c2 b)(ra:a.right=true)(rb:b.right=true)(hB:B=W.heap.size) :
  NRs (W.alloc (.cells #[.bool n1,.slice p1 l1 c1,.bool n2,.slice p2 l2 c2] T)) B [a,b]:=by
 subst hB
 have hh:=heap_alloc_new W (.cells #[.bool n1,.slice p1 l1 c1,.bool n2,.slice p2 l2 c2] T)
 refine⟨by simp,fun i x hi=>?_⟩
 match i,hi with
 | 0,hi =>
  simp only[List.getElem?_cons_zero,Option.some.injEq] at hi
  subst hi
  exact⟨ra,n1,p1,l1,c1,by rw[cell_of_row _ _ _ _ _ _ hh];rfl,by rw[cell_of_row _ _ _ _ _ _ hh];rfl,h1.alloc _⟩
 | 1,hi =>
  simp only[List.getElem?_cons_succ,List.getElem?_cons_zero,Option.some.injEq] at hi
  subst hi
  exact⟨rb,n2,p2,l2,c2,by rw[cell_of_row _ _ _ _ _ _ hh];rfl,by rw[cell_of_row _ _ _ _ _ _ hh];rfl,h2.alloc _⟩
 | i+2,hi=>simp at hi
theorem NRs_three{W:World}{n1 n2 n3:Bool}{p1 p2 p3:Option Addr}{l1 c1 l2 c2 l3 c3 B:Nat}{a b c:Nm}(T:TypeId)(h1:NR W n1 p1 l1 c1 a)(h2:NR W n2 p2 l2 c2 b)(h3:NR W n3 p3 l3 c3 c)(ra:a.right=true)(rb:b.right=true)(rc:c.right=true)(hB:B=W.heap.size) :
  NRs (W.alloc (.cells #[.bool n1,.slice p1 l1 c1,.bool n2,.slice p2 l2 c2,.bool n3,.slice p3 l3 c3] T)) B [a,b,c]:=by
 subst hB
 have hh:=heap_alloc_new W (.cells #[.bool n1,.slice p1 l1 c1,.bool n2,.slice p2 l2 c2,.bool n3,.slice p3 l3 c3] T)
 refine⟨by simp,fun i x hi=>?_⟩
 match i,hi with
 | 0,hi =>
  simp only[List.getElem?_cons_zero,Option.some.injEq] at hi
  subst hi
  exact⟨ra,n1,p1,l1,c1,by rw[cell_of_row _ _ _ _ _ _ hh];rfl,by rw[cell_of_row _ _ _ _ _ _ hh];rfl,h1.alloc _⟩
 | 1,hi =>
  simp only[List.getElem?_cons_succ,List.getElem?_cons_zero,Option.some.injEq] at hi
  subst hi
  exact⟨rb,n2,p2,l2,c2,by rw[cell_of_row _ _ _ _ _ _ hh];rfl,by rw[cell_of_row _ _ _ _ _ _ hh];rfl,h2.alloc _⟩
 | 2,hi =>
  simp only[List.getElem?_cons_succ,List.getElem?_cons_zero,Option.some.injEq] at hi
  subst hi
  exact⟨rc,n3,p3,l3,c3,by rw[cell_of_row _ _ _ _ _ _ hh];rfl,by rw[cell_of_row _ _ _ _ _ _ hh];rfl,h3.alloc _⟩
 | i+3,hi=>simp at hi
theorem root_times2(a b:Nm)(B c:Nat)(w:World)(h:NRs w B [a,b])(hs:∀k,small (prodZ ([a,b].take k))=true) :
  Calls Tryz.prog 61 #[.slice (some ⟨B,0,none⟩) 2 c] w (RetN w (ofZ (prodZ [a,b]))):=root_times [a,b] B 2 c w h rfl (by simp) hs
theorem root_times3(a b d:Nm)(B c:Nat)(w:World)(h:NRs w B [a,b,d])(hs:∀k,small (prodZ ([a,b,d].take k))=true) :
  Calls Tryz.prog 61 #[.slice (some ⟨B,0,none⟩) 3 c] w (RetN w (ofZ (prodZ [a,b,d]))):=root_times [a,b,d] B 3 c w h rfl (by simp) hs
theorem root_side(a b c:Nm)(na nb nc:Bool)(pa pb pc:Option Addr)(la ca lb cb lc cc:Nat)(w:World)(ha:NR w na pa la ca a)(hb:NR w nb pb lb cb b)(hc:NR w nc pc lc cc c)(ra:a.right=true)(rb:b.right=true)(rc:c.right=true)
  (s1:∀k,small (prodZ ([a,a].take k))=true) (s2:∀k,small (prodZ ([b,b,c].take k))=true) :
  Calls Tryz.prog 62 #[.agg #[.bool na,.slice pa la ca],.agg #[.bool nb,.slice pb lb cb],.agg #[.bool nc,.slice pc lc cc]] w fun e w'=>e=.returned (.int .i64 (sideZ a.z b.z c.z))/\Ext w w':=by
 have S1:=Lib.hid s1
 have S2:=Lib.hid s2
 clear s1 s2
 have ba:=sgn_bd a.z
 have bb:=sgn_bd b.z
 have bc:=sgn_bd c.z
 obtain⟨x,X⟩:∃x,Hid (sgn a.z=x):=⟨_,rfl⟩
 obtain⟨sb,SB⟩:∃x,Hid (sgn b.z=x):=⟨_,rfl⟩
 obtain⟨sc,SC⟩:∃x,Hid (sgn c.z=x):=⟨_,rfl⟩
 rw[X.out] at ba
 rw[SB.out] at bb
 rw[SC.out] at bc
 obtain⟨y,Y⟩:∃y,Hid (sb*sc=y):=⟨_,rfl⟩
 have by':=unit_mul bb bc
 rw[Y.out] at by'
 obtain⟨q,Q⟩:∃q,Hid (x*y=q):=⟨_,rfl⟩
 have bq:=unit_mul ba by'
 rw[Q.out] at bq
 have hy:=Y.out
 have hq:=Q.out
 obtain⟨r,R⟩:∃r,Hid (cmpZ (a.z*a.z) (b.z*b.z*c.z)=r):=⟨_,rfl⟩
 have br:=cmpZ_bd (a.z*a.z) (b.z*b.z*c.z)
 rw[R.out] at br
 obtain⟨z,Z⟩:∃z,Hid (x*r=z):=⟨_,rfl⟩
 have bz:=unit_mul ba br
 rw[Z.out] at bz
 have hz:=Z.out
 have RES:Hid (sideZ a.z b.z c.z=if 0<=q then max (min (x+y) 1) (-1) else z):=by
  show sideZ a.z b.z c.z=_
  unfold sideZ
  rw[X.out,SB.out,SC.out,Y.out,Q.out,R.out,Z.out]
 go_enter Tryz.func62,Tryz.ntmps62
 go_wp2_with fail
 go_region_held3 (fun w'=>w'.cell? ⟨w.heap.size,0,none⟩=some (.bool na)/\w'.cell? ⟨w.heap.size,1,none⟩=some (.slice pa la ca)/\w'.cell? ⟨w.heap.size+1,0,none⟩=some (.bool nb)/\w'.cell? ⟨w.heap.size+1,1,none⟩=some (.slice pb lb cb)/\w'.cell? ⟨w.heap.size+2,0,none⟩=some (.bool nc)/\w'.cell? ⟨w.heap.size+2,1,none⟩=some (.slice pc lc cc)) (refine⟨?_,?_,?_,?_,?_,?_⟩<;>go_simp) (first|(go_at_call 99;(with_reducible refine (root_sign a na pa la ca _ (ha.ext bxx) ra).mono ?_);rintro e w1 ⟨rfl,hx⟩;rw[X.out];(have hx0:Ext w w1:=Ext.step bxx hx);obtain⟨_,⟨_,_,_⟩,⟨_,_,_⟩,_,_,_⟩:=keepK3 hx w.heap.size)|(go_at_call 99;(with_reducible refine (root_sign b nb pb lb cb _ (hb.ext bxx) rb).mono ?_);rintro e w2 ⟨rfl,hx⟩;rw[SB.out];(have hx1:Ext w w2:=Ext.step bxx hx);obtain⟨_,⟨_,_,_⟩,⟨_,_,_⟩,_,_,_⟩:=keepK3 hx w.heap.size)|(go_at_call 99;(with_reducible refine (root_sign c nc pc lc cc _ (hc.ext bxx) rc).mono ?_);rintro e w3 ⟨rfl,hx⟩;rw[SC.out];(have hx2:Ext w w3:=Ext.step bxx hx);obtain⟨_,⟨_,_,_⟩,⟨_,_,_⟩,_,_,_⟩:=keepK3 hx w.heap.size))
 by_cases h0:0<=q
 ·go_wp2
  all_goals
   go_ret
   refine⟨?_,bxx⟩
   rw[RES.out,if_pos h0]
   refine congrArg (fun n=>Ending.returned (.int .i64 n)) ?_
   show _=_
   omega
 ·have CM:Hid (cmpP (ofZ (prodZ [a,a])) (ofZ (prodZ [b,b,c]))=r):=by
   have e1:prodZ [a,a]=a.z*a.z:=by simp[prodZ]
   have e2:prodZ [b,b,c]=b.z*b.z*c.z:=by simp[prodZ]
   have f1:small (prodZ [a,a])=true:=S1.out 2
   have f2:small (prodZ [b,b,c])=true:=S2.out 3
   show cmpP (ofZ (prodZ [a,a])) (ofZ (prodZ [b,b,c]))=r
   rw[cmpP_side f1 f2,e1,e2,R.out]
  go_wp2_with fail
  go_region_held3 (fun w'=>w'.cell? ⟨w.heap.size,0,none⟩=some (.bool na)/\w'.cell? ⟨w.heap.size,1,none⟩=some (.slice pa la ca)/\w'.cell? ⟨w.heap.size+1,0,none⟩=some (.bool nb)/\w'.cell? ⟨w.heap.size+1,1,none⟩=some (.slice pb lb cb)/\w'.cell? ⟨w.heap.size+2,0,none⟩=some (.bool nc)/\w'.cell? ⟨w.heap.size+2,1,none⟩=some (.slice pc lc cc)) (refine⟨?_,?_,?_,?_,?_,?_⟩<;>go_simp) (first|(go_at_call 61;(with_reducible refine (root_times2 a a _ 2 _ (by repeat (first|exact NRs_two _ (ha.ext bxx) (ha.ext bxx) ra ra (by first|rfl|simp)|refine NRs.drew ?_|refine NRs.more ?_ _)) S1.out).mono ?_);rintro e w4 ⟨n4,p4,l4,c4,rfl,hnr4,hnew4,hx4⟩;(have hx5:Ext w w4:=Ext.step bxx hx4);obtain⟨_,⟨_,_,_⟩,⟨_,_,_⟩,_,_,_⟩:=keepK3 hx4 w.heap.size)|(go_at_call 61;(with_reducible refine (root_times3 b b c _ 3 _ (by repeat (first|exact NRs_three _ (hb.ext bxx) (hb.ext bxx) (hc.ext bxx) rb rb rc (by first|rfl|simp)|refine NRs.drew ?_|refine NRs.more ?_ _|refine NRs.ext ?_ hx4)) S2.out).mono ?_);rintro e w5 ⟨n5,p5,l5,c5,rfl,hnr5,hnew5,hx6⟩;(have hx7:Ext w4 w5:=Ext.step bxx hx6);(have hx8:Ext w w5:=Ext.step hx5 hx7);obtain⟨_,⟨_,_,_⟩,⟨_,_,_⟩,_,_,_⟩:=keepK3 hx6 w.heap.size)|(go_at_call 56;refine (num_Cmp _ _ _ _ _ _ _ _ _ _ _ (hnr4.ext bxx) (hnr5.ext bxx)).mono ?_;rintro e w6 ⟨rfl,hx9⟩;rw[CM.out];(have hx10:Ext w w6:=Ext.step bxx hx9);obtain⟨_,⟨_,_,_⟩,⟨_,_,_⟩,_,_,_⟩:=keepK3 hx9 w.heap.size))
  go_wp2
  all_goals
   go_ret
   refine⟨?_,bxx⟩
   rw[RES.out,if_neg (by omega)]
   refine congrArg (fun n=>Ending.returned (.int .i64 n)) ?_
   show _=_
   first|rfl|exact IntWalk.i64_in _ (by omega)
end
abbrev NmV(n:Bool)(p:Option Addr)(l c:Nat):Value:=.agg #[.bool n,.slice p l c]
def nOfC(f:FuncId)(H:∀(z:Int) (w:World),-9223372036854775808<=z->z<=9223372036854775807->Calls Tryz.prog f #[.int .i64 z] w (RetN w (ofZ z))):Con where
 f:=f
 g:=fun | [⟨false,[.i z _]⟩]=>some (.one (nmV (ofZ z)),[])|_=>none
 ok:=by
  intro args res ps h _
  split at h<;>cases h
  intro W vals hv
  simp only[rvs_cons,rvs_nil,rv_i] at hv
  obtain⟨_,⟨⟨_,h1,h2⟩,rfl⟩,_,rfl,rfl⟩:=hv
  exact (H _ W h1 h2).mono fun _ _ h=>gv_nm h
def nRightC(f:FuncId)(H:∀(a:Nm) (n:Bool) (p:Option Addr) (l c:Nat) (w:World),NR w n p l c a->Calls Tryz.prog f #[NmV n p l c] w fun e w'=>e=.returned (.bool a.right)/\Ext w w'):Con where
 f:=f
 g:=fun | [⟨true,[.d (.num a)]⟩]=>some (.one (blV a.right),[])|_=>none
 ok:=by
  intro args res ps h _
  split at h<;>cases h
  intro W vals hv
  simp only[rvs_cons,rvs_nil,rv_t,rl_num,rl_nil] at hv
  obtain⟨_,⟨_,⟨n,p,l,c,h1,_,rfl,rfl⟩,rfl⟩,_,rfl,rfl⟩:=hv
  exact (H _ _ _ _ _ W h1).mono fun _ _ h=>gv_bl h
theorem two_nm{W:World}{a b:Nm}{vals:List Value}(hv:RepVs W W (fun _=>0) 0 [⟨true,[.d (.num a)]⟩,⟨true,[.d (.num b)]⟩] vals):∃n p l c m q k d,vals=[NmV n p l c,NmV m q k d]/\NR W n p l c a/\NR W m q k d b:=by
 simp only[rvs_cons,rvs_nil,rv_t,rl_num,rl_nil] at hv
 obtain⟨_,⟨_,⟨n,p,l,c,h1,_,rfl,rfl⟩,rfl⟩,_,rfl,_,⟨_,⟨m,q,k,d,h2,_,rfl,rfl⟩,rfl⟩,_,rfl,rfl⟩:=hv
 exact⟨n,p,l,c,m,q,k,d,rfl,h1,h2⟩
def nBinC(f:FuncId)(G:Nm->Nm->Nm×Bool)(S:Nm->Nm->List Prop)(H:∀(a b:Nm) (n m:Bool) (p q:Option Addr) (l c k d:Nat) (w:World),All (S a b)->NR w n p l c a->NR w m q k d b->Calls Tryz.prog f #[NmV n p l c,NmV m q k d] w (RetNum w (G a b))):Con where
 f:=f
 g:=fun | [⟨true,[.d (.num a)]⟩,⟨true,[.d (.num b)]⟩]=>some (.tup [nmV (G a b).1,blV (G a b).2],S a b)|_=>none
 ok:=by
  intro args res ps h hp
  split at h<;>cases h
  intro W vals hv
  obtain⟨_,_,_,_,_,_,_,_,rfl,h1,h2⟩:=two_nm hv
  exact (H _ _ _ _ _ _ _ _ _ _ W hp h1 h2).mono fun _ _ h=>gv_nb h
theorem cmpP_b(a b:Nm):(cmpP a b).natAbs<=1/\I64 (cmpP a b):=by
 have h : -1<=cmpP a b/\cmpP a b<=1:=by
  unfold cmpP
  split
  ·exact cmpZ_bd _ _
  ·omega
 exact⟨by omega,by unfold I64;omega⟩
def nCmpC(f:FuncId)(H:∀(a b:Nm) (n m:Bool) (p q:Option Addr) (l c k d:Nat) (w:World),NR w n p l c a->NR w m q k d b->Calls Tryz.prog f #[NmV n p l c,NmV m q k d] w fun e w'=>e=.returned (.int .i64 (cmpP a b))/\Ext w w'):Con where
 f:=f
 g:=fun | [⟨true,[.d (.num a)]⟩,⟨true,[.d (.num b)]⟩]=>some (.one (inV (cmpP a b) 1),[])|_=>none
 ok:=by
  intro args res ps h _
  split at h<;>cases h
  intro W vals hv
  obtain⟨_,_,_,_,_,_,_,_,rfl,h1,h2⟩:=two_nm hv
  exact (H _ _ _ _ _ _ _ _ _ _ W h1 h2).mono fun _ _ h=>gv_in (cmpP_b _ _) h
def nDivC(f:FuncId)(H:∀(a b:Nm) (n m:Bool) (p q:Option Addr) (l c k d:Nat) (w:World),NR w n p l c a->NR w m q k d b->Calls Tryz.prog f #[NmV n p l c,NmV m q k d] w (RetDiv w (divP a b))):Con where
 f:=f
 g:=fun | [⟨true,[.d (.num a)]⟩,⟨true,[.d (.num b)]⟩]=>some (.tup [nmV (divP a b).1,nmV (divP a b).2.1,blV (divP a b).2.2],[])|_=>none
 ok:=by
  intro args res ps h _
  split at h<;>cases h
  intro W vals hv
  obtain⟨_,_,_,_,_,_,_,_,rfl,h1,h2⟩:=two_nm hv
  refine (H _ _ _ _ _ _ _ _ _ _ W h1 h2).mono fun e w' h=>?_
  obtain⟨n,p,l,c,m,q,k,d,rfl,h1,h2,_,_,h3⟩:=h
  exact⟨_,rfl,⟨[_,_,_],rfl,rvs_cons.2 ⟨_,rv_t.2 ⟨_,rl_num.2 ⟨n,p,l,c,h1,_,rfl,rfl⟩,rfl⟩,_,rfl,rvs_cons.2 ⟨_,rv_t.2 ⟨_,rl_num.2 ⟨m,q,k,d,h2,_,rfl,rfl⟩,rfl⟩,_,rfl,rvs_cons.2 ⟨_,rv_v.2 ⟨rfl,rfl⟩,_,rfl,rfl⟩⟩⟩⟩,h3⟩
theorem ofP_div{add s:Int}{n d:Nm}(hd:Dig d.d)(hb:ofBad s n d=false)(h0:¬(s=0\/n.z=0)) :
  ofP add s n d=if 8<max (divP n (gcdP n d).1).1.d.length (divP d (gcdP n d).1).1.d.length then (Rt.no,false) else (⟨add,s,(divP n (gcdP n d).1).1,(divP d (gcdP n d).1).1⟩,true):=by
 obtain⟨s1,s2,rn,rd,nn,dp⟩:=ofBad_false hb
 have en:=z_pos nn
 obtain⟨ed,pd⟩:=d_pos dp
 have gp:0<Nat.gcd (val n.d) (val d.d):=Nat.gcd_pos_of_pos_right _ pd
 have rg:small ((Nat.gcd (val n.d) (val d.d):Nat):Int)=true:=by
  refine small_of_le hd rd ?_
  rw[Int.natAbs_natCast]
  exact Nat.gcd_le_right _ pd
 rw[gcdP_right rn rd,divP_nm rn rg gp,divP_nm rd rg gp]
 unfold ofP gcdN
 rw[hb,if_neg (by simp),if_neg h0]
def cNRight:Con:=nRightC 98 fun a _ _ _ _ w h=>num_Right a _ _ _ _ w h
def cNCmp:Con:=nCmpC 56 fun a b _ _ _ _ _ _ _ _ w h1 h2=>num_Cmp a b _ _ _ _ _ _ _ _ w h1 h2
def cNOf:Con:=nOfC 53 fun z w h1 h2=>num_Of z w h1 h2
def cNGcd:Con:=nBinC 100 gcdP (fun _ b=>[b.right=true]) fun a b _ _ _ _ _ _ _ _ w h h1 h2=>gcd_all a b _ _ _ _ _ _ _ _ _ w h1 h2 h.1 rfl
def cNDiv:Con:=nDivC 101 fun a b _ _ _ _ _ _ _ _ w h1 h2=>div_all a b _ _ _ _ _ _ _ _ _ w h1 h2 rfl
def cRSign:Con where
 f:=99
 g:=fun | [⟨true,[.d (.num a)]⟩]=>some (.one (inV (sgn a.z) 1),[a.right=true])|_=>none
 ok:=by
  intro args res ps h hp
  split at h<;>cases h
  rename_i a
  intro W vals hv
  simp only[rvs_cons,rvs_nil,rv_t,rl_num,rl_nil] at hv
  obtain⟨_,⟨_,⟨n,p,l,c,h1,_,rfl,rfl⟩,rfl⟩,_,rfl,rfl⟩:=hv
  refine (root_sign _ _ _ _ _ W h1 hp.1).mono fun _ _ h=>gv_in ?_ h
  have:=sgn_bd a.z
  exact⟨by omega,by unfold I64;omega⟩
def KNm:List Con:=[cNRight,cNOf,cNGcd,cNDiv,cRSign]

set_option maxHeartbeats 1000000
set_option maxRecDepth 100000
section
theorem root_Sign1(a b c:Nm)(na nb nc:Bool)(pa pb pc:Option Addr)(la ca lb cb lc cc A B C:Nat)(w:World)(ha:NR w na pa la ca a)(hb:NR w nb pb lb cb b)(hc:NR w nc pc lc cc c)(ra:a.right=true)(rb:b.right=true)(rc:c.right=true)
  (s1:∀k,small (prodZ ([a,a].take k))=true) (s2:∀k,small (prodZ ([b,b,c].take k))=true)
  (a0:w.cell? ⟨A,0,none⟩=some (.bool na)) (a1:w.cell? ⟨A,1,none⟩=some (.slice pa la ca)) (b0:w.cell? ⟨B,0,none⟩=some (.bool nb)) (b1:w.cell? ⟨B,1,none⟩=some (.slice pb lb cb)) (c0:w.cell? ⟨C,0,none⟩=some (.bool nc)) (c1:w.cell? ⟨C,1,none⟩=some (.slice pc lc cc)) :
  Calls Tryz.prog 251 #[.pointer (some ⟨A,0,none⟩),.pointer (some ⟨B,0,none⟩),.pointer (some ⟨C,0,none⟩)] w fun e w'=>e=.returned (.int .i64 (sideZ a.z b.z c.z))/\Ext w w':=by
 have S1:=Lib.hid s1
 have S2:=Lib.hid s2
 clear s1 s2
 go_enter Tryz.func251,Tryz.ntmps251
 go_wp2_with fail
 refine (root_side a b c _ _ _ _ _ _ _ _ _ _ _ _ _ ha hb hc ra rb rc S1.out S2.out).mono ?_
 rintro e w1 ⟨rfl,hx⟩
 go_wp2
 go_ret
 exact⟨rfl,hx⟩
theorem root_guarded_sign(a b c:Nm)(na nb nc:Bool)(pa pb pc:Option Addr)(la ca lb cb lc cc A B C:Nat)(w:World)(ha:NR w na pa la ca a)(hb:NR w nb pb lb cb b)(hc:NR w nc pc lc cc c)(ra:a.right=true)(rb:b.right=true)(rc:c.right=true)
  (s1:∀k,small (prodZ ([a,a].take k))=true) (s2:∀k,small (prodZ ([b,b,c].take k))=true)
  (a0:w.cell? ⟨A,0,none⟩=some (.bool na)) (a1:w.cell? ⟨A,1,none⟩=some (.slice pa la ca)) (b0:w.cell? ⟨B,0,none⟩=some (.bool nb)) (b1:w.cell? ⟨B,1,none⟩=some (.slice pb lb cb)) (c0:w.cell? ⟨C,0,none⟩=some (.bool nc)) (c1:w.cell? ⟨C,1,none⟩=some (.slice pc lc cc)) :
  Calls Tryz.prog 57 #[.func (.func 251) #[] #[.pointer (some ⟨A,0,none⟩),.pointer (some ⟨B,0,none⟩),.pointer (some ⟨C,0,none⟩)]] w fun e w'=>e=.returned (.int .i64 (sideZ a.z b.z c.z))/\Ext w w':=by
 have S1:=Lib.hid s1
 have S2:=Lib.hid s2
 clear s1 s2
 have hmf:∀(fn:Fn) (first cap:Array Value) (w:World),(Instr.makeFunc fn first cap).run Tryz.prog w=.ok (.func fn first cap) w:=fun _ _ _ _=>rfl
 have hA:=World.block_lt_of_cell? w _ a0
 have hB:=World.block_lt_of_cell? w _ b0
 have hC:=World.block_lt_of_cell? w _ c0
 have hx0:Ext w (w.alloc (.cells #[.int .i64 0] 3)):=bxx
 go_enter_defers Tryz.func57,Tryz.ntmps57
 go_wp2_with fail
 refine (root_Sign1 a b c _ _ _ _ _ _ _ _ _ _ _ _ A B C _ (ha.ext hx0) (hb.ext hx0) (hc.ext hx0) ra rb rc S1.out S2.out ((hx0.cell (p:=⟨A,0,none⟩) hA).trans a0) ((hx0.cell (p:=⟨A,1,none⟩) hA).trans a1) ((hx0.cell (p:=⟨B,0,none⟩) hB).trans b0) ((hx0.cell (p:=⟨B,1,none⟩) hB).trans b1) ((hx0.cell (p:=⟨C,0,none⟩) hC).trans c0) ((hx0.cell (p:=⟨C,1,none⟩) hC).trans c1)).mono ?_
 rintro e w1 ⟨rfl,hx⟩
 have hx1:Ext w w1:=Ext.step hx0 hx
 obtain⟨_,_,hk_w1_0,_⟩:=keepK1 hx w.heap.size
 go_wp2_with fail
 refine leaves_cons (f:=106) (args:=#[.pointer (some ⟨w.heap.size,0,none⟩)]) (by simp) (by simp[go_sem]) ?_
 refine (catch_idle ⟨w.heap.size,0,none⟩ _).mono ?_
 rintro e u' w'' ⟨rfl,rfl,rfl⟩
 simp[Leaves,settle,results,Tryz.results57,go_sem,hk_w1_0]
 exact bxx
end
end Go.Proofs.YtceemiodpccbhaaGreat
