import Derived.Test.YtceemiodpccbhaaGreatP19
set_option linter.unusedVariables false
set_option linter.unusedSimpArgs false

namespace Go.Proofs.YtceemiodpccbhaaGreat
open Go.RowKit

set_option maxHeartbeats 2000000
set_option maxRecDepth 100000
section
def goodB(a:Nm):Bool:=a.right&&decide (a.d.length<=20)
def signP(a b c:Nm):Int:=if goodB a&&(goodB b&&goodB c)&&!c.neg then sideZ a.z b.z c.z else 0
theorem natAbs_val(a:Nm):a.z.natAbs=val a.d:=by unfold Nm.z;split<;>omega
theorem small_one:small 1=true:=by
 unfold small
 rw[decide_eq_true_eq]
 exact Nat.one_lt_pow (by decide) (by decide)
theorem small_of_lt{z:Int}{k:Nat}(h:z.natAbs<4294967296 ^ k)(hk:k<=64):small z=true:=by
 unfold small
 rw[decide_eq_true_eq]
 exact Nat.lt_of_lt_of_le h (Nat.pow_le_pow_right (by decide) hk)
theorem good_lt{a:Nm}(hd:Dig a.d)(h:goodB a=true):a.z.natAbs<4294967296 ^ 20:=by
 simp only[goodB,Bool.and_eq_true,decide_eq_true_eq] at h
 rw[natAbs_val]
 exact Nat.lt_of_lt_of_le (val_lt hd) (Nat.pow_le_pow_right (by decide) h.2)
theorem mul_lt_pow{x y:Int}{m n:Nat}(hx:x.natAbs<4294967296 ^ m)(hy:y.natAbs<4294967296 ^ n):(x*y).natAbs<4294967296 ^ (m+n):=by
 rw[Int.natAbs_mul,Nat.pow_add]
 exact Nat.mul_lt_mul'' hx hy
theorem small_two{a b:Nm}{m n:Nat}(ha:a.z.natAbs<4294967296 ^ m)(hb:b.z.natAbs<4294967296 ^ n)(hk:m+n<=64):∀k,small (prodZ ([a,b].take k))=true:=by
 intro k
 match k with
 | 0=>exact small_one
 | 1 =>
  have e:prodZ ([a,b].take 1)=a.z:=by simp[prodZ]
  rw[e];exact small_of_lt ha (by omega)
 | k+2 =>
  have e:prodZ ([a,b].take (k+2))=a.z*b.z:=by simp[prodZ]
  rw[e];exact small_of_lt (mul_lt_pow ha hb) hk
theorem small_three{a b c:Nm}{m n o:Nat}(ha:a.z.natAbs<4294967296 ^ m)(hb:b.z.natAbs<4294967296 ^ n)(hc:c.z.natAbs<4294967296 ^ o)(hk:m+n+o<=64):∀k,small (prodZ ([a,b,c].take k))=true:=by
 intro k
 match k with
 | 0=>exact small_one
 | 1 =>
  have e:prodZ ([a,b,c].take 1)=a.z:=by simp[prodZ]
  rw[e];exact small_of_lt ha (by omega)
 | 2 =>
  have e:prodZ ([a,b,c].take 2)=a.z*b.z:=by simp[prodZ]
  rw[e];exact small_of_lt (mul_lt_pow ha hb) (by omega)
 | k+3 =>
  have e:prodZ ([a,b,c].take (k+3))=a.z*b.z*c.z:=by simp[prodZ]
  rw[e];exact small_of_lt (mul_lt_pow (mul_lt_pow ha hb) hc) hk
def NRl(w:World)(b:Nat)(l:List Nm):Prop :=
 b<w.heap.size/\∀i a,l[i]? = some a->∃n p li c,w.cell? ⟨b,i*2,none⟩=some (.bool n)/\w.cell? ⟨b,i*2+1,none⟩=some (.slice p li c)/\NR w n p li c a
theorem NRl.ext{w w':World}{b:Nat}{l:List Nm}(h:NRl w b l)(hx:Ext w w'):NRl w' b l:=by
 refine⟨Nat.lt_of_lt_of_le h.1 hx.size,fun i a hi=>?_⟩
 obtain⟨n,p,li,c,h1,h2,h3⟩:=h.2 i a hi
 exact⟨n,p,li,c,by rw[hx.cell (p:=⟨b,i*2,none⟩) h.1];exact h1,by rw[hx.cell (p:=⟨b,i*2+1,none⟩) h.1];exact h2,h3.ext hx⟩
theorem NRl_three{W:World}{n1 n2 n3:Bool}{p1 p2 p3:Option Addr}{l1 c1 l2 c2 l3 c3 B:Nat}{a b c:Nm}(T:TypeId)(h1:NR W n1 p1 l1 c1 a)(h2:NR W n2 p2 l2 c2 b)(h3:NR W n3 p3 l3 c3 c)(hB:B=W.heap.size) :
  NRl (W.alloc (.cells #[.bool n1,.slice p1 l1 c1,.bool n2,.slice p2 l2 c2,.bool n3,.slice p3 l3 c3] T)) B [a,b,c]:=by
 subst hB
 have hh:=heap_alloc_new W (.cells #[.bool n1,.slice p1 l1 c1,.bool n2,.slice p2 l2 c2,.bool n3,.slice p3 l3 c3] T)
 refine⟨by simp,fun i x hi=>?_⟩
 match i,hi with
 | 0,hi =>
  simp only[List.getElem?_cons_zero,Option.some.injEq] at hi
  subst hi
  exact⟨n1,p1,l1,c1,by rw[cell_of_row _ _ _ _ _ _ hh];rfl,by rw[cell_of_row _ _ _ _ _ _ hh];rfl,h1.alloc _⟩
 | 1,hi =>
  simp only[List.getElem?_cons_succ,List.getElem?_cons_zero,Option.some.injEq] at hi
  subst hi
  exact⟨n2,p2,l2,c2,by rw[cell_of_row _ _ _ _ _ _ hh];rfl,by rw[cell_of_row _ _ _ _ _ _ hh];rfl,h2.alloc _⟩
 | 2,hi =>
  simp only[List.getElem?_cons_succ,List.getElem?_cons_zero,Option.some.injEq] at hi
  subst hi
  exact⟨n3,p3,l3,c3,by rw[cell_of_row _ _ _ _ _ _ hh];rfl,by rw[cell_of_row _ _ _ _ _ _ hh];rfl,h3.alloc _⟩
 | i+3,hi=>simp at hi
theorem signP_bad{a b c:Nm}(k:Nat)(x:Nm)(hx:[a,b,c][k]? = some x)(h:goodB x=false):signP a b c=0:=by
 unfold signP
 match k,hx with
 | 0,hx=>simp only[List.getElem?_cons_zero,Option.some.injEq] at hx;subst hx;simp[h]
 | 1,hx=>simp only[List.getElem?_cons_succ,List.getElem?_cons_zero,Option.some.injEq] at hx;subst hx;simp[h]
 | 2,hx=>simp only[List.getElem?_cons_succ,List.getElem?_cons_zero,Option.some.injEq] at hx;subst hx;simp[h]
 | k+3,hx=>simp at hx
theorem root_Sign(a b c:Nm)(na nb nc:Bool)(pa pb pc:Option Addr)(la ca lb cb lc cc:Nat)(w:World)(ha:NR w na pa la ca a)(hb:NR w nb pb lb cb b)(hc:NR w nc pc lc cc c) :
  Calls Tryz.prog 242 #[.agg #[.bool na,.slice pa la ca],.agg #[.bool nb,.slice pb lb cb],.agg #[.bool nc,.slice pc lc cc]] w fun e w'=>e=.returned (.int .i64 (signP a b c))/\Ext w w':=by
 have hmf:∀(fn:Fn) (first cap:Array Value) (w:World),(Instr.makeFunc fn first cap).run Tryz.prog w=.ok (.func fn first cap) w:=fun _ _ _ _=>rfl
 go_enter Tryz.func242,Tryz.ntmps242
 go_wp2_with fail
 obtain⟨w1,W1⟩:∃w1,Hid ((((w.alloc (.cells #[.bool na,.slice pa la ca] 36)).alloc (.cells #[.bool nb,.slice pb lb cb] 36)).alloc (.cells #[.bool nc,.slice pc lc cc] 36)).alloc (.cells #[.bool na,.slice pa la ca,.bool nb,.slice pb lb cb,.bool nc,.slice pc lc cc] 36)=w1):=⟨_,rfl⟩
 rw[W1.out]
 have NL:NRl w1 (w.heap.size+3) [a,b,c]:=by
  rw[<- W1.out]
  exact NRl_three _ (ha.ext bxx) (hb.ext bxx) (hc.ext bxx) (by simp)
 have hx1:Ext w w1:=by rw[<- W1.out];exact bxx
 have a0:w1.cell? ⟨w.heap.size,0,none⟩=some (.bool na):=by rw[<- W1.out];go_simp
 have a1:w1.cell? ⟨w.heap.size,1,none⟩=some (.slice pa la ca):=by rw[<- W1.out];go_simp
 have b0:w1.cell? ⟨w.heap.size+1,0,none⟩=some (.bool nb):=by rw[<- W1.out];go_simp
 have b1:w1.cell? ⟨w.heap.size+1,1,none⟩=some (.slice pb lb cb):=by rw[<- W1.out];go_simp
 have c0:w1.cell? ⟨w.heap.size+2,0,none⟩=some (.bool nc):=by rw[<- W1.out];go_simp
 have c1:w1.cell? ⟨w.heap.size+2,1,none⟩=some (.slice pc lc cc):=by rw[<- W1.out];go_simp
 have hz1:w.heap.size+4<=w1.heap.size:=by rw[<- W1.out];simp
 have HNL:=Lib.hid NL
 have A0:=Lib.hid a0
 have A1:=Lib.hid a1
 have B0:=Lib.hid b0
 have B1:=Lib.hid b1
 have C0:=Lib.hid c0
 have C1:=Lib.hid c1
 clear NL a0 a1 b0 b1 c0 c1
 go_loopw [14] (fun i wr=>∃k:Nat,k<=3/\i=.int .i64 (k:Int)/\(∀j x,j<k->[a,b,c][j]? = some x->goodB x=true)/\Ext w1 wr) (fun i _=>3-(intOf i).toNat)
 case atStart=>exact⟨0,by omega,rfl,fun j x hj _=>absurd hj (Nat.not_lt_zero j),Below.refl _ _⟩
 case round =>
  obtain⟨k,hk,rfl,hgood,hx⟩:=hrel
  have GOOD:=Lib.hid hgood
  clear hgood
  have hx2:=Ext.step hx1 hx
  have hzr:w.heap.size+4<=wr.heap.size:=Nat.le_trans hz1 hx.size
  by_cases hlt:k<3
  ·obtain ⟨x, XX⟩ : ∃ x, Hid ([a, b, c][k]? = some x) := ⟨[a, b, c][k], List.getElem?_eq_getElem hlt⟩
   obtain⟨n,p,l,cp,e0,e1,hnx⟩:=(HNL.out.ext hx).2 k x XX.out
   have hlen:=hnx.2.1
   have hlc:=hnx.2.2.le
   have hcm:=hnx.2.2.max
   have HLEN:=Lib.hid hlen
   have hl64:l<=9223372036854775807:=by omega
   clear hlen
   by_cases rx:x.right=true
   ·by_cases hl : l <= 20
    ·have GX:Hid (goodB x=true):=by
      show goodB x=true
      unfold goodB
      rw[rx,<- HLEN.out]
      simpa using hl
     go_wp2_with fail
     refine (num_Right x _ _ _ _ _ (hnx.ext bxx)).mono ?_
     rintro e w2 ⟨rfl,hx3⟩
     rw[rx]
     have hx4:Ext wr w2:=Ext.step bxx hx3
     have hx5:Ext w1 w2:=Ext.step hx hx4
     have q1:w2.cell? ⟨wr.heap.size,1,none⟩=some (.slice p l cp):=(hx3.cell (p:=⟨wr.heap.size,1,none⟩) (by simp)).trans (by go_simp)
     go_wp2
     refine⟨⟨k+1,by omega,rfl,fun j y hj hy=>?_,hx5⟩,by simp[intOf];omega⟩
     rcases Nat.lt_or_ge j k with h|h
     ·exact GOOD.out j y h hy
     ·obtain rfl : j = k := by omega
      rw[XX.out] at hy
      cases hy
      exact GX.out
    ·have GX:Hid (signP a b c=0):=by
      refine signP_bad k x XX.out ?_
      unfold goodB
      rw[rx,<- HLEN.out]
      simpa using hl
     go_wp2_with fail
     refine (num_Right x _ _ _ _ _ (hnx.ext bxx)).mono ?_
     rintro e w2 ⟨rfl,hx3⟩
     rw[rx]
     have hx4:Ext wr w2:=Ext.step bxx hx3
     have hx5:Ext w w2:=Ext.step hx2 hx4
     have q1:w2.cell? ⟨wr.heap.size,1,none⟩=some (.slice p l cp):=(hx3.cell (p:=⟨wr.heap.size,1,none⟩) (by simp)).trans (by go_simp)
     go_wp2
     go_ret
     exact⟨by rw[GX.out];rfl,hx5⟩
   ·have rx : x.right = false := by simpa using rx
    have GX:Hid (signP a b c=0):=by
     refine signP_bad k x XX.out ?_
     unfold goodB
     rw[rx]
     rfl
    go_wp2_with fail
    refine (num_Right x _ _ _ _ _ (hnx.ext bxx)).mono ?_
    rintro e w2 ⟨rfl,hx3⟩
    rw[rx]
    have hx4:Ext wr w2:=Ext.step bxx hx3
    have hx5:Ext w w2:=Ext.step hx2 hx4
    go_wp2
    go_ret
    exact⟨by rw[GX.out];rfl,hx5⟩
  ·obtain rfl : k = 3 := by omega
   have ga:goodB a=true:=GOOD.out 0 a (by omega) rfl
   have gb:goodB b=true:=GOOD.out 1 b (by omega) rfl
   have gc:goodB c=true:=GOOD.out 2 c (by omega) rfl
   have hc0:wr.cell? ⟨w.heap.size+2,0,none⟩=some (.bool nc):=(hx.cell (p:=⟨w.heap.size+2,0,none⟩) (show w.heap.size+2<w1.heap.size by omega)).trans C0.out
   cases hneg:c.neg with
   | true =>
    have S:Hid (signP a b c=0):=by
     show signP a b c=0
     simp[signP,hneg]
    have hnc:nc=true:=hc.1.trans hneg
    subst hnc
    clear hneg
    go_wp2
    go_ret
    exact⟨by rw[S.out];rfl,hx2⟩
   | false =>
    have S:Hid (signP a b c=sideZ a.z b.z c.z):=by
     show signP a b c=_
     simp[signP,hneg,ga,gb,gc]
    have hnc:nc=false:=hc.1.trans hneg
    subst hnc
    have ra:a.right=true:=by simp only[goodB,Bool.and_eq_true] at ga;exact ga.1
    have rb:b.right=true:=by simp only[goodB,Bool.and_eq_true] at gb;exact gb.1
    have rc:c.right=true:=by simp only[goodB,Bool.and_eq_true] at gc;exact gc.1
    have s1:=Lib.hid (small_two (good_lt ha.2.2.dig ga) (good_lt ha.2.2.dig ga) (by omega))
    have s2:=Lib.hid (small_three (good_lt hb.2.2.dig gb) (good_lt hb.2.2.dig gb) (good_lt hc.2.2.dig gc) (by omega))
    clear hneg ga gb gc
    go_wp2_with fail
    refine (root_guarded_sign a b c _ _ _ _ _ _ _ _ _ _ _ _ _ _ _ _ (ha.ext hx2) (hb.ext hx2) (hc.ext hx2) ra rb rc s1.out s2.out ((hx.cell (p:=⟨w.heap.size,0,none⟩) (show w.heap.size<w1.heap.size by omega)).trans A0.out) ((hx.cell (p:=⟨w.heap.size,1,none⟩) (show w.heap.size<w1.heap.size by omega)).trans A1.out) ((hx.cell (p:=⟨w.heap.size+1,0,none⟩) (show w.heap.size+1<w1.heap.size by omega)).trans B0.out) ((hx.cell (p:=⟨w.heap.size+1,1,none⟩) (show w.heap.size+1<w1.heap.size by omega)).trans B1.out) hc0 ((hx.cell (p:=⟨w.heap.size+2,1,none⟩) (show w.heap.size+2<w1.heap.size by omega)).trans C1.out)).mono ?_
    rintro e w2 ⟨rfl,hx3⟩
    have hx5:Ext w w2:=Ext.step hx2 hx3
    go_wp2
    go_ret
    exact⟨by rw[S.out];rfl,hx5⟩
end
theorem sgn_cases(z:Int):(sgn z=1/\0<z)\/(sgn z=0/\z=0)\/(sgn z = -1/\z<0):=by
 unfold sgn cmpZ
 rcases Int.lt_trichotomy z 0 with h|h|h
 ·right;right;rw[if_pos h];exact⟨rfl,h⟩
 ·right;left;rw[if_neg (by omega),if_pos h];exact⟨rfl,h⟩
 ·left;rw[if_neg (by omega),if_neg (by omega)];exact⟨rfl,h⟩
theorem cmpZ_case(a b:Int):(cmpZ a b=1/\b<a)\/(cmpZ a b=0/\a=b)\/(cmpZ a b = -1/\a<b):=by
 unfold cmpZ
 rcases Int.lt_trichotomy a b with h|h|h
 ·right;right;rw[if_pos h];exact⟨rfl,h⟩
 ·right;left;rw[if_neg (by omega),if_pos h];exact⟨rfl,h⟩
 ·left;rw[if_neg (by omega),if_neg (by omega)];exact⟨rfl,h⟩
def cmpR(A s n d t m e:Int):Int :=
 if sideZ (A*d) s (n*d)≠t then max (min (sideZ (A*d) s (n*d)-t) 1) (-1) else sideZ (A*d) s (n*d)*sideZ (A*A*d*e+n*e-m*d) (2*A*s*e) (n*d)

set_option maxRecDepth 100000
section
def rtV(r:Rt):V1:=⟨true,[.i r.add lim,.i r.s lim,.d (.num r.n),.d (.num r.d)]⟩
abbrev rtA(r:Rt×Bool):AV:=.tup [rtV r.1,blV r.2]
theorem ofP_bad{add s:Int}{n d:Nm}(h:ofBad s n d=true):ofP add s n d=(Rt.no,false):=by unfold ofP;rw[h];rfl
theorem ofP_zero{add s:Int}{n d:Nm}(h:ofBad s n d=false)(h0:s=0\/n.z=0):ofP add s n d=(⟨add,0,zero,ofZ 1⟩,true):=by unfold ofP;rw[h,if_neg (by decide),if_pos h0]
theorem sgn_le{z:Int}(b:Bool)(h:decide (z<=0)=b):decide (sgn z<=0)=b:=by
 rw[<- h,decide_eq_decide]
 rcases sgn_cases z with⟨h,g⟩|⟨h,g⟩|⟨h,g⟩<;>omega
theorem sgn_z{z:Int}(b:Bool)(h:(z==0)=b):(sgn z==0)=b:=by
 rw[<- h,Bool.eq_iff_iff,beq_iff_eq,beq_iff_eq]
 rcases sgn_cases z with⟨h,g⟩|⟨h,g⟩|⟨h,g⟩<;>omega
theorem nt_F{b:Bool}(h:b=true):(!b)=false:=by rw[h];rfl
theorem nt_T{b:Bool}(h:b=false):(!b)=true:=by rw[h];rfl
theorem bad_iff{s:Int}{n d:Nm}:ofBad s n d=(decide (s < -1)||(decide (s>1)||(!n.right||(!d.right||(n.neg||decide (d.z<=0)))))):=by
 unfold ofBad
 simp only[Bool.or_assoc,gt_iff_lt]
theorem max_len{x y:List Nat}{b:Bool}(h:decide (8<max x.length y.length)=b):decide (max (x.length:Int) (y.length:Int)>8)=b:=by
 rw[<- h,decide_eq_decide]
 omega
theorem rtOf_fok(add s:Int)(n d:Nm)(dd:Dig d.d):Fok Tryz.prog 52 [inV add lim,inV s lim,nmV n,nmV d] (rtA (ofP add s n d)):=by
 cases h1:decide (s < -1) with
 | true =>
  rw[ofP_bad (by rw[bad_iff,h1];rfl)]
  exact fok KNm [true] [pT h1] (by kernel_rfl)
 | false =>
 cases h2:decide (s>1) with
 | true =>
  rw[ofP_bad (by rw[bad_iff,h1,h2];rfl)]
  exact fok KNm [false,true] [pF h1,pT h2] (by kernel_rfl)
 | false =>
 cases h3:n.right with
 | false =>
  rw[ofP_bad (by rw[bad_iff,h1,h2,h3];rfl)]
  exact fok KNm [false,false,true] [pF h1,pF h2,pT (nt_T h3)] (by kernel_rfl)
 | true =>
 cases h4:d.right with
 | false =>
  rw[ofP_bad (by rw[bad_iff,h1,h2,h3,h4];rfl)]
  exact fok KNm [false,false,false,true] [pF h1,pF h2,pF (nt_F h3),pT (nt_T h4)] (by kernel_rfl)
 | true =>
 cases h5:n.neg with
 | true =>
  rw[ofP_bad (by rw[bad_iff,h1,h2,h3,h4,h5];rfl)]
  exact fok KNm [false,false,false,false,true] [pF h1,pF h2,pF (nt_F h3),pF (nt_F h4),pT h5] (by kernel_rfl)
 | false =>
 cases h6:decide (d.z<=0) with
 | true =>
  rw[ofP_bad (by rw[bad_iff,h1,h2,h3,h4,h5,h6];rfl)]
  exact fok KNm [false,false,false,false,false,true] [pF h1,pF h2,pF (nt_F h3),pF (nt_F h4),pF h5,pP h4,pT (sgn_le _ h6)] (by kernel_rfl)
 | false =>
 have hb:ofBad s n d=false:=by rw[bad_iff,h1,h2,h3,h4,h5,h6];rfl
 cases h7:(s==0) with
 | true =>
  rw[ofP_zero hb (.inl (by simpa using h7))]
  exact fok KNm [false,false,false,false,false,false,true] [pF h1,pF h2,pF (nt_F h3),pF (nt_F h4),pF h5,pP h4,pF (sgn_le _ h6),pT h7] (by kernel_rfl)
 | false =>
 cases h8:(n.z==0) with
 | true =>
  rw[ofP_zero hb (.inr (by simpa using h8))]
  exact fok KNm [false,false,false,false,false,false,false,true] [pF h1,pF h2,pF (nt_F h3),pF (nt_F h4),pF h5,pP h4,pF (sgn_le _ h6),pF h7,pP h3,pT (sgn_z _ h8)] (by kernel_rfl)
 | false =>
 rw[ofP_div dd hb (fun h=>h.elim (fun h=>by rw[h] at h7;cases h7) (fun h=>by rw[h] at h8;cases h8))]
 cases h9:decide (8<max (divP n (gcdP n d).1).1.d.length (divP d (gcdP n d).1).1.d.length) with
 | true =>
  rw[if_pos (of_decide_eq_true h9)]
  exact fok KNm [false,false,false,false,false,false,false,false,true] [pF h1,pF h2,pF (nt_F h3),pF (nt_F h4),pF h5,pP h4,pF (sgn_le _ h6),pF h7,pP h3,pF (sgn_z _ h8),pP h4,pT (max_len h9)] (by kernel_rfl)
 | false =>
  rw[if_neg (of_decide_eq_false h9)]
  exact fok KNm [false,false,false,false,false,false,false,false,false] [pF h1,pF h2,pF (nt_F h3),pF (nt_F h4),pF h5,pP h4,pF (sgn_le _ h6),pF h7,pP h3,pF (sgn_z _ h8),pP h4,pF (max_len h9)] (by kernel_rfl)
theorem rt_at{V W:World}{r:Nat->Nat}{k:Nat}{a s:Int}{A S:Nat}{n d:Nm}{v:Value}:RepV V W r k ⟨true,[.i a A,.i s S,.d (.num n),.d (.num d)]⟩ v->RepV V W r k (rtV ⟨a,s,n,d⟩) v/\Dig n.d/\Dig d.d/\I64 a:=by
 intro hv
 simp only[rv_t,rl_i,rl_num,rl_nil] at hv
 obtain⟨_,⟨⟨_,i1⟩,_,rfl,⟨_,i2⟩,_,rfl,n1,p1,l1,c1,h1,_,rfl,m1,q1,k1,d1,h2,_,rfl,rfl⟩,rfl⟩:=hv
 exact⟨rv_t.2 ⟨_,rl_i.2 ⟨lim64 i1,_,rfl,rl_i.2 ⟨lim64 i2,_,rfl,rl_num.2 ⟨n1,p1,l1,c1,h1,_,rfl,rl_num.2 ⟨m1,q1,k1,d1,h2,_,rfl,rfl⟩⟩⟩⟩,rfl⟩,h1.2.2.dig,h2.2.2.dig,i1⟩
theorem nm_dig{V W:World}{r:Nat->Nat}{k:Nat}{d:Nm}{v:Value}(hv:RepV V W r k ⟨true,[.d (.num d)]⟩ v):Dig d.d:=by
 obtain⟨_,hw,_⟩:=rv_t.1 hv
 obtain⟨m1,q1,k1,d1,h2,_⟩:=rl_num.1 hw
 exact h2.2.2.dig
theorem in_lim{V W:World}{r:Nat->Nat}{k:Nat}{z:Int}{A:Nat}:∀v,RepV V W r k ⟨false,[.i z A]⟩ v->RepV V W r k (inV z lim) v:=fun v hv=>by
 obtain⟨h1,rfl⟩:=rv_i.1 hv
 exact rv_i.2 ⟨lim64 h1.2,rfl⟩
def ofC(f:FuncId)(H:∀(add s:Int) (n d:Nm),Dig d.d->Fok Tryz.prog f [inV add lim,inV s lim,nmV n,nmV d] (rtA (ofP add s n d))):Con where
 f:=f
 g:=fun | [⟨false,[.i a _]⟩,⟨false,[.i s _]⟩,⟨true,[.d (.num n)]⟩,⟨true,[.d (.num d)]⟩]=>some (rtA (ofP a s n d),[])|_=>none
 ok:=by
  intro args res ps h hp
  split at h<;>cases h
  rename_i a _ s _ n d
  intro W vals hv
  have dd:Dig d.d:=by
   obtain⟨_,_,_,_,h1⟩:=rvs_cons.1 hv
   obtain⟨_,_,_,_,h2⟩:=rvs_cons.1 h1
   obtain⟨_,_,_,_,h3⟩:=rvs_cons.1 h2
   obtain⟨_,h4,_⟩:=rvs_cons.1 h3
   exact nm_dig h4
  exact H a s n d dd W vals (rvs_1 in_lim (rvs_1 in_lim fun _ h=>h) _ hv)
def cRtOf:Con:=ofC 52 rtOf_fok
def KRr:List Con:=[cRtOf,cNCmp]
theorem rtRight_fok(a:Rt):Fok Tryz.prog 23 [rtV a] (.one (blV a.right)):=by
 unfold Rt.right
 cases h1:(ofP a.add a.s a.n a.d).2 with
 | false=>exact fok KRr [false] [pF h1] (by kernel_rfl)
 | true =>
 cases h2:((ofP a.add a.s a.n a.d).1.s==a.s) with
 | false=>exact fok KRr [true,false] [pT h1,pF h2] (by kernel_rfl)
 | true =>
 cases h3:(cmpP a.n (ofP a.add a.s a.n a.d).1.n==0) with
 | false=>exact fok KRr [true,true,false] [pT h1,pT h2,pF h3] (by kernel_rfl)
 | true=>exact fok KRr [true,true,true] [pT h1,pT h2,pT h3] (by kernel_rfl)
def rightC(f:FuncId)(H:∀a:Rt,Dig a.n.d/\Dig a.d.d->Fok Tryz.prog f [rtV a] (.one (blV a.right))):Con where
 f:=f
 g:=fun | [⟨true,[.i a _,.i s _,.d (.num n),.d (.num d)]⟩]=>some (.one (blV (Rt.right ⟨a,s,n,d⟩)),[])|_=>none
 ok:=by
  intro args res ps h hp
  split at h<;>cases h
  rename_i a _ s _ n d
  intro W vals hv
  obtain⟨_,hx,_,rfl,hw⟩:=rvs_cons.1 hv
  cases hw
  obtain⟨k1,k2,k3,_⟩:=rt_at hx
  exact H ⟨a,s,n,d⟩ ⟨k2,k3⟩ W _ (rvs_cons.2 ⟨_,k1,_,rfl,rfl⟩)
def cRight:Con:=rightC 23 fun a _=>rtRight_fok a
end
theorem digit_at{d:List Nat}(hd:Dig d)(j:Nat):d[j]?.getD 0=val d/4294967296 ^ j%4294967296:=by
 have hp:0<4294967296 ^ j:=Nat.pow_pos (by omega)
 by_cases h:j<d.length
 ·have h1 := val_take_drop d j (by omega)
  have h2:=val_lt (hd.take j)
  rw[List.length_take,Nat.min_eq_left (by omega)] at h2
  rw[h1,Nat.add_comm,Nat.mul_add_div hp,Nat.div_eq_of_lt h2,Nat.add_zero,List.drop_eq_getElem_cons h,val_cons,Nat.add_mul_mod_self_left,List.getElem?_eq_getElem h,Option.getD_some,Nat.mod_eq_of_lt (hd.get j h)]
 ·have h1 := val_lt hd
  have h2:4294967296 ^ d.length<=4294967296 ^ j:=Nat.pow_le_pow_right (by omega) (by omega)
  rw[List.getElem?_eq_none (by omega),Nat.div_eq_of_lt (by omega)]
  rfl
theorem bit_at{d:List Nat}(hd:Dig d)(k:Nat):d[k/32]?.getD 0/2 ^ (k%32)%2=val d/2 ^ k%2:=by
 rw[digit_at hd]
 have e:(4294967296:Nat) ^ (k/32)=2 ^ (32*(k/32)):=by rw[show (4294967296:Nat)=2 ^ 32 from rfl,<- Nat.pow_mul]
 have hi:k%32<32:=Nat.mod_lt _ (by omega)
 have hB:(4294967296:Nat)=2 ^ (k%32)*2 ^ (32-k%32):=by rw[<- Nat.pow_add,show k%32+(32-k%32)=32 by omega]
 have h2:(2:Nat) ^ (32-k%32)=2*2 ^ (32-k%32-1):=by
  rw[<- Nat.pow_succ',show (32-k%32-1).succ=32-k%32 by omega]
 have hk:(2:Nat) ^ k=2 ^ (32*(k/32))*2 ^ (k%32):=by rw[<- Nat.pow_add,show 32*(k/32)+k%32=k by omega]
 rw[e,hk,<- Nat.div_div_eq_div_mul]
 generalize val d/2 ^ (32*(k/32))=t
 conv=>lhs;rw[hB]
 rw[Nat.mod_mul_right_div_self,h2,Nat.mod_mul_right_mod]
structure BitInv (A V k m:Nat) (q:List Nat) (r:Nat):Prop where
 dig:Dig q
 len:q.length=m
 ex:∃Q,val q=Q*2 ^ k/\Q*V+r=A/2 ^ k
 lt:r<V
theorem bit_half(A k:Nat):A/2 ^ k=2*(A/2 ^ (k+1))+A/2 ^ k%2:=by
 rw[Nat.pow_succ,<- Nat.div_div_eq_div_mul]
 omega
theorem bit_zero{A V k m b:Nat}{q:List Nat}{r:Nat}(h:BitInv A V (k+1) m q r)(hb:A/2 ^ k%2=b)(hlt:2*r+b<V):BitInv A V k m q (2*r+b):=by
 obtain⟨Q,h1,h2⟩:=h.ex
 refine⟨h.dig,h.len,⟨2*Q,by rw[h1,Nat.pow_succ];grind,?_⟩,hlt⟩
 rw[bit_half A k,hb,<- h2]
 grind
theorem bit_low{A V k m:Nat}{q:List Nat}{r:Nat}(h:BitInv A V (k+1) m q r):∃t,q[k/32]?.getD 0=2 ^ (k%32)*(2*t)/\2 ^ (k%32)*(2*t)+2 ^ (k%32)<4294967296/\2 ^ (k%32)*(2*t) ||| 2 ^ (k%32)=2 ^ (k%32)*(2*t)+2 ^ (k%32):=by
 obtain⟨Q,h1,h2⟩:=h.ex
 have hi:k%32<32:=Nat.mod_lt _ (by omega)
 have e:(4294967296:Nat) ^ (k/32)=2 ^ (32*(k/32)):=by rw[show (4294967296:Nat)=2 ^ 32 from rfl,<- Nat.pow_mul]
 have hk:(2:Nat) ^ (k+1)=2 ^ (32*(k/32))*(2 ^ (k%32)*2):=by rw[<- Nat.pow_succ,<- Nat.pow_add,show 32*(k/32)+(k%32).succ=k+1 by omega]
 have hd:=digit_at h.dig (k/32)
 have hp:0<2 ^ (32*(k/32)):=Nat.pow_pos (by omega)
 have hs:0<2 ^ (k%32):=Nat.pow_pos (by omega)
 rw[h1,e,hk,show Q*(2 ^ (32*(k/32))*(2 ^ (k%32)*2))=2 ^ (32*(k/32))*(Q*(2 ^ (k%32)*2)) by grind,Nat.mul_div_cancel_left _ hp] at hd
 have hB:(4294967296:Nat)=2 ^ (k%32)*2*2 ^ (31-k%32):=by rw[<- Nat.pow_succ,<- Nat.pow_add,show (k%32).succ+(31-k%32)=32 by omega]
 rw[hB,Nat.mul_comm Q,Nat.mul_mod_mul_left] at hd
 have hlt:Q%2 ^ (31-k%32)<2 ^ (31-k%32):=Nat.mod_lt _ (Nat.pow_pos (by omega))
 refine⟨Q%2 ^ (31-k%32),by rw[hd];grind,?_,?_⟩
 ·have h3 : 2 ^ (k % 32) * 2 * (Q % 2 ^ (31 - k % 32) + 1) <= 2 ^ (k % 32) * 2 * 2 ^ (31 - k % 32) := Nat.mul_le_mul_left _ hlt
  rw[<- hB] at h3
  have e3:2 ^ (k%32)*2*(Q%2 ^ (31-k%32)+1)=2 ^ (k%32)*(2*(Q%2 ^ (31-k%32)))+2*2 ^ (k%32):=by grind
  omega
 ·have := Nat.two_pow_add_eq_or_of_lt (i := k % 32 + 1) (b := 2 ^ (k % 32)) (by rw [Nat.pow_succ]; omega) (Q % 2 ^ (31 - k % 32))
  have e4:2 ^ (k%32+1)*(Q%2 ^ (31-k%32))=2 ^ (k%32)*(2*(Q%2 ^ (31-k%32))):=by rw[Nat.pow_succ];grind
  rw[e4] at this
  exact this.symm
theorem bit_one{A V k m b x:Nat}{q:List Nat}{r:Nat}(h:BitInv A V (k+1) m q r)(hb:A/2 ^ k%2=b)(hge:V<=2*r+b)(hj:k/32<m)(hx:q[k/32]?.getD 0=x)(hxb:x+2 ^ (k%32)<4294967296):BitInv A V k m (q.set (k/32) (x+2 ^ (k%32))) (2*r+b-V):=by
 obtain⟨Q,h1,h2⟩:=h.ex
 have hb2:b<=1:=by have:=Nat.mod_lt (A/2 ^ k) (show 0<2 by omega);omega
 have hr:=h.lt
 have e:(4294967296:Nat) ^ (k/32)=2 ^ (32*(k/32)):=by rw[show (4294967296:Nat)=2 ^ 32 from rfl,<- Nat.pow_mul]
 have hk:2 ^ (32*(k/32))*2 ^ (k%32)=2 ^ k:=by rw[<- Nat.pow_add,show 32*(k/32)+k%32=k by omega]
 have hs:=val_set q (k/32) (x+2 ^ (k%32)) x (by rw[h.len];exact hj) hx
 refine⟨h.dig.set _ _ hxb,by rw[List.length_set];exact h.len,⟨2*Q+1,?_,?_⟩,by omega⟩
 ·rw [Nat.mul_add, e, hk, h1, Nat.pow_succ] at hs
  have e5:(2*Q+1)*2 ^ k=Q*(2 ^ k*2)+2 ^ k:=by grind
  omega
 ·rw [bit_half A k, hb, <- h2]
  have e6:(2*Q+1)*V=2*(Q*V)+V:=by grind
  rw[e6]
  omega
theorem bit_end{A V m:Nat}{q:List Nat}{r:Nat}(hV:0<V)(h:BitInv A V 0 m q r):val q=A/V/\r=A%V:=by
 obtain⟨Q,h1,h2⟩:=h.ex
 rw[Nat.pow_zero,Nat.mul_one] at h1
 rw[Nat.pow_zero,Nat.div_one] at h2
 have hlt:=h.lt
 rw[h1,<- h2]
 constructor
 ·rw[Nat.mul_comm,Nat.mul_add_div hV,Nat.div_eq_of_lt hlt,Nat.add_zero]
 ·rw[Nat.mul_comm,Nat.mul_add_mod,Nat.mod_eq_of_lt hlt]
theorem bit_start{A V m n:Nat}(hV:0<V)(hA:A<2 ^ n):BitInv A V n m (List.replicate m 0) 0 :=
 ⟨fun x hx=>by rw[(List.mem_replicate.1 hx).2];omega,List.length_replicate,⟨0,by rw[val_replicate,Nat.zero_mul],by rw[Nat.div_eq_of_lt hA,Nat.zero_mul]⟩,hV⟩

set_option maxHeartbeats 8000000
set_option maxRecDepth 100000
section
theorem pow_mod(i:Nat)(h:i<32):(2:Int) ^ i%4294967296=(2:Int) ^ i:=by
 have hp:(2:Int) ^ i=((2 ^ i:Nat):Int):=(Int.natCast_pow 2 i).symm
 have h0:2 ^ i<=2 ^ 31:=Nat.pow_le_pow_right (by omega) (by omega)
 rw[hp]
 rw[show (2:Nat) ^ 31=2147483648 by decide] at h0
 generalize 2 ^ i=s at *
 omega
theorem td32(k:Nat):((k:Nat):Int).tdiv 32=((k/32:Nat):Int):=tdiv_nat k 32
theorem tm32(k:Nat):((k:Nat):Int).tmod 32=((k%32:Nat):Int):=tmod_nat k 32
attribute [local go_sem] td32 tm32
theorem or_bit(x i:Nat)(hx:x+2 ^ i<4294967296)(h:x ||| 2 ^ i=x+2 ^ i):bits .or .u32 (x:Int) (2 ^ i:Int)=((x+2 ^ i:Nat):Int):=by
 have hp:(2:Int) ^ i=((2 ^ i:Nat):Int):=(Int.natCast_pow 2 i).symm
 rw[hp]
 generalize 2 ^ i=s at *
 rw[u32_or_nat x s (by omega) (by omega),h]
theorem and_bit(x i:Nat)(hx:x<4294967296):bits .and .u32 ((x:Int)/2 ^ i) 1=((x/2 ^ i%2:Nat):Int):=by
 have hp:(2:Int) ^ i=((2 ^ i:Nat):Int):=(Int.natCast_pow 2 i).symm
 have e:(x:Int)/2 ^ i=((x/2 ^ i:Nat):Int):=by rw[hp];rfl
 have hl:x/2 ^ i<=x:=Nat.div_le_self _ _
 have:=u32_and_nat (x/2 ^ i) 1 (by omega) (by omega)
 rw[e,show (1:Int)=((1:Nat):Int) from rfl,this,Nat.and_one_is_mod]
theorem cmp_digs{r V:Nat}{b:List Nat}(db:Dig b)(tb:Tight b)(hV:val b=V):(0<=cmpL (digs r) b) <-> V<=r:=by
 have h:=cmpL_neg (dig_digs r) db (tight_digs r) tb
 rw[val_digs,hV] at h
 omega
theorem r01_quotient(a b:List Nat)(pa pb:Option Addr)(la ca lb cb:Nat)(w:World)(ha:Row w pa ca a)(hb:Row w pb cb b)(hla:la=a.length)(hlb:lb=b.length)(tb:Tight b)(h64:a.length<=900)(hb64:b.length<=900)(hb0:0<val b) :
  Calls Tryz.prog 173 #[.slice pa la ca,.slice pb lb cb] w (RetQR w (digs (val a/val b)) (digs (val a%val b))):=by
 subst hla hlb
 obtain⟨ii,hii,hz0,hz1,hz2⟩:=info_parts info32
 have hla:=ha.le
 have hma:=ha.max
 have hlb:=hb.le
 have hmb:=hb.max
 obtain⟨A,HA⟩:∃A,Hid (val a=A):=⟨_,rfl⟩
 obtain⟨V,HV⟩:∃V,Hid (val b=V):=⟨_,rfl⟩
 obtain⟨m,HM⟩:∃m,Hid (a.length=m):=⟨_,rfl⟩
 have hA:A<2 ^ (32*m):=by
  have:=val_lt ha.dig
  rw[HA.out,HM.out,show (4294967296:Nat)=2 ^ 32 from rfl,<- Nat.pow_mul] at this
  exact this
 have hVl:V<4294967296 ^ b.length:=by rw[<- HV.out];exact val_lt hb.dig
 have ROWA:=Lib.hid ha
 have ROWB:=Lib.hid hb
 have DA:=Lib.hid ha.dig
 have hla2:a.length<=m:=Nat.le_of_eq HM.out
 have hla3:m<=a.length:=Nat.le_of_eq HM.out.symm
 have CD:=Lib.hid (fun r=>cmp_digs (r:=r) hb.dig tb HV.out)
 rw[HV.out] at hb0
 rw[HA.out,HV.out,HM.out]
 rw[HM.out] at hla h64
 have RL:=Lib.hid (fun r (h:r<V+V)=>show (digs r).length<=1000 from Nat.le_trans ((digs_length_le r (b.length+1)).2 (by rw[Nat.pow_succ];omega)) (by omega))
 clear ha hb
 go_enter Tryz.func173,Tryz.ntmps173
 go_wp2_with (at_make;refine wpList_make_full _ rfl _ _ 34 rfl w.heap.size 140 ii (.int .u32 0) 1 Tryz.underlying34 hii hz0 hz1 _ _ _ _ m rfl rfl (by omega) (by omega) (by rw[hz2];omega) (by unfold maxLen;omega) (Nat.le_refl _) ?_)
 all_goals
  intro w1 hown hgr
  rw[show (madeCells #[Value.int IntKind.u32 0] m).toList=enc (List.replicate m 0) from by rw[enc,List.map_replicate];exact toList_madeCells_one _ _] at hown
  have hx1:Ext w w1:=⟨hgr.os,hgr.tape,hgr.output,hgr.size,fun k hk=>hgr.block k hk (by simp)⟩
  clear hgr
  go_wp2_with fail
  go_loopw [7,8] (fun rs ks wr=>∃(k r:Nat) (q:List Nat) (pr:Option Addr) (lr cr:Nat),ks=.int .i64 ((k:Int)-1)/\rs=.slice pr lr cr/\lr=(digs r).length/\Row wr pr cr (digs r)/\BitInv A V k m q r/\k<=32*m/\wr.ownsRow w.heap.size 140 1 (.slice (some ⟨w.heap.size,0,none⟩) m m) m (enc q)/\Ext w wr) (fun _ ks _=>(intOf ks+1).toNat)
  case atStart=>exact⟨32*m,0,_,none,0,0,by push_cast;rfl,rfl,by rw[digs_zero];rfl,by rw[digs_zero];exact Row.nil _,bit_start hb0 hA,Nat.le_refl _,hown,hx1⟩
  case round =>
   clear hown hx1
   obtain⟨k,r,q,pr,lr,cr,rfl,rfl,hlr,hrow,hinv,hk,hown,hx⟩:=hrel
   have LR:=Lib.hid hlr
   clear hlr
   cases k with
   | zero =>
    obtain⟨E1,E2⟩:=bit_end hb0 hinv
    have e:(((0:Nat):Int)-1) = -1:=by omega
    rw[e]
    clear e
    have hql:=hinv.len
    obtain⟨pq,cq,hvq,hrowQ,_⟩:=row_of_owns (d:=q) hown hinv.dig
    injection hvq with e1 e2 e3
    subst e1
    rw[<- e3] at hrowQ
    have EQ:=Lib.hid (show trim q=digs (A/V) by unfold trim;rw[E1])
    have TQ:=Lib.hid (r01_trim q _ _ _ _ hrowQ hql.symm)
    rw[EQ.out] at TQ
    have HR:=Lib.hid (E2 ▸ hrow)
    have HL:=Lib.hid (E2 ▸ LR.out)
    clear hinv hown hrow E1 E2 e2 e3 hrowQ LR
    go_wp2_with fail
    refine TQ.out.mono ?_
    rintro e w5 ⟨rfl,hr5,hx5⟩
    have HR5:=Lib.hid hr5
    have HRR:=Lib.hid (HR.out.ext hx5)
    have hx6:Ext w w5:=Ext.step hx hx5
    clear hr5 hx5
    go_wp2
    go_ret2
    exact⟨_,_,_,_,by rw[<- HL.out];rfl,HR5.out,HRR.out,hx6⟩
   | succ k =>
    have e:(((k+1:Nat):Int)-1)=(k:Int):=by omega
    rw[e]
    clear e
    have hr:=hinv.lt
    have PL:=Lib.hid (r01_plus (digs r) (digs r) pr pr lr cr lr cr wr hrow hrow LR.out LR.out (RL.out r (by omega)) (RL.out r (by omega)))
    rw[val_digs] at PL
    have hjm:k/32<m:=by omega
    have hi32:k%32<32:=Nat.mod_lt _ (by omega)
    have BA:=bit_at DA.out k
    rw[HA.out] at BA
    obtain⟨t,BL1,BL2,BL3⟩:=bit_low hinv
    have XD:=DA.out.getD (k/32)
    rw[List.getD_eq_getElem?_getD] at XD
    have b1:A/2 ^ k%2<2:=Nat.mod_lt _ (by omega)
    obtain⟨bv,BV⟩:∃x,Hid (A/2 ^ k%2=x):=⟨_,rfl⟩
    rw[BV.out] at BA b1
    have hql:k/32<q.length:=by rw[hinv.len];exact hjm
    have kq:=own_cell hown (k/32) _ hjm BL1
    have fq:=World.ownsRow.frozenAt hown (k/32)
    obtain⟨y,Y⟩:∃x,Hid (2 ^ (k%32)*(2*t)=x):=⟨_,rfl⟩
    rw[Y.out] at BL1 BL2 BL3 kq
    have OB:=or_bit y (k%32) BL2 BL3
    obtain⟨ba,oa,rfl,hba,hca⟩:=ROWA.out.at (by omega)
    have ka0:=hca (k/32) (by omega)
    have AB:=and_bit (a[k/32]?.getD 0) (k%32) XD
    rw[BA] at AB
    have hs0:2 ^ (k%32)<=2 ^ 31:=Nat.pow_le_pow_right (by omega) (by omega)
    have hsp:(2:Int) ^ (k%32)=((2 ^ (k%32):Nat):Int):=(Int.natCast_pow 2 (k%32)).symm
    have SW:=pow_mod (k%32) hi32
    clear hsp
    obtain⟨x,X⟩:∃x,Hid (a[k/32]?.getD 0=x):=⟨_,rfl⟩
    rw[X.out] at ka0 AB XD
    obtain⟨z,Z⟩:∃x,Hid (y+2 ^ (k%32)=x):=⟨_,rfl⟩
    rw[Z.out] at OB
    have ONE:=Lib.hid (fun hge=>bit_one hinv BV.out hge hjm BL1 BL2)
    have ZERO:=Lib.hid (fun hlt=>bit_zero hinv BV.out hlt)
    rw[Z.out] at ONE
    have OWN:=Lib.hid hown
    have EX0:=Lib.hid hx
    clear hca hinv hown hrow hs0 BL1 BL2 BL3 BA
    go_wp2_with fail
    refine PL.out.mono ?_
    rintro e w2 ⟨p2,c2,rfl,hr2,_,hx2⟩
    rw[show r+r=2*r by omega] at hr2 ⊢
    have hxx2:Ext w w2:=Ext.step hx hx2
    have ka2:w2.cell? ⟨ba,oa+k/32,none⟩=some (.int .u32 (x:Int)):=(hxx2.cell (p:=⟨ba,oa+k/32,none⟩) hba).trans ka0
    clear PL
    by_cases hbv:bv=1
    ·skip
     have E1:((bv:Int)==1)=true:=by rw[hbv];rfl
     have HBV:=Lib.hid hbv
     have PL2:=Lib.hid (fun g W (hW:Ext w2 W) (k:Row W (some ⟨g,0,none⟩) 1 [1])=>r01_plus (digs (2*r)) [1] p2 (some ⟨g,0,none⟩) (digs (2*r)).length c2 1 1 W (hr2.ext hW) k rfl rfl (RL.out (2*r) (by omega)) (by simp))
     rw[val_digs,val_one,show 2*r+1=2*r+bv by rw[HBV.out]] at PL2
     clear hbv hr2
     go_wp2_with fail
     refine (PL2.out _ _ bxx (row_one _ 1 _ _ (by decide) rfl)).mono ?_
     rintro e w3 ⟨p3,c3,rfl,hr3,_,hx3a⟩
     have hx3:Ext wr w3:=hx2.trans ((Ext.step bxx hx3a:Ext w2 w3).mono hx2.size)
     clear hx3a hx2 PL2
     have hxx3:Ext w w3:=EX0.out.trans (hx3.mono EX0.out.size)
     have CP:=Lib.hid (r01_compare (digs (2*r+bv)) b p3 pb (digs (2*r+bv)).length c3 b.length cb w3 hr3 (ROWB.out.ext hxx3) rfl rfl)
     by_cases hge:V<=2*r+bv
     ·have D1 : decide (0 <= cmpL (digs (2 * r + bv)) b) = true := by rw [decide_eq_true_eq]; exact (CD.out _).2 hge
      have ONE2:=Lib.hid (ONE.out hge)
      obtain⟨c,C⟩:∃c,Hid (cmpL (digs (2*r+bv)) b=c):=⟨_,rfl⟩
      rw[C.out] at CP D1
      have LR3:=RL.out (2*r+bv) (by omega)
      have LB3:=tight_len (dig_digs (2*r+bv)) tb (by rw[val_digs,HV.out];exact hge)
      obtain⟨l3,L3⟩:∃l,Hid ((digs (2*r+bv)).length=l):=⟨_,rfl⟩
      rw[L3.out] at CP LR3 LB3 ⊢
      have MN:=Lib.hid (fun W (hW:Ext w3 W)=>r01_minus (digs (2*r+bv)) b p3 pb l3 c3 b.length cb W (hr3.ext hW) (ROWB.out.ext (hxx3.trans (hW.mono hxx3.size))) L3.out.symm rfl (by rw[L3.out];omega) (by rw[L3.out];exact LB3) (by rw[val_digs,HV.out];exact hge))
      rw[val_digs,HV.out] at MN
      have HR3:=Lib.hid hr3
      clear hr3 hge
      go_wp2_with fail
      refine CP.out.mono ?_
      rintro e w4 ⟨rfl,hx4⟩
      go_wp2_with fail
      refine (MN.out _ hx4).mono ?_
      rintro e w5 ⟨p5,c5,rfl,hr5,hnew5,hx5⟩
      have hx6:Ext w3 w5:=Ext.step hx4 hx5
      have hx7:Ext wr w5:=hx3.trans (hx6.mono hx3.size)
      have hown5:=ownsRow_extT OWN.out hx7
      have kq5:=(hx7.cell (p:=⟨w.heap.size,k/32,none⟩) (World.ownsRow.lt OWN.out w.heap.size rfl).2).trans kq
      have fq5:=World.ownsRow.frozenAt hown5 (k/32)
      have hxx5:Ext w w5:=EX0.out.trans (hx7.mono EX0.out.size)
      have hwl:=(World.ownsRow.lt hown5 w.heap.size rfl).2
      have hwl0:=(World.ownsRow.lt OWN.out w.heap.size rfl).2
      obtain⟨hown6,_⟩:=World.ownsRow.stored (w:=w5.drew) hown5 (k/32) (.int .u32 (z:Int))
      have eS:(enc q).set (k/32) (.int .u32 (z:Int))=enc (q.set (k/32) z):=by rw[enc,enc,List.map_set]
      rw[eS] at hown6
      have OWN6:=Lib.hid hown6
      have hx8:Ext w (w5.drew.setCell ⟨w.heap.size,k/32,none⟩ (.int .u32 (z:Int))):=(Below.drew hxx5).setCell (Nat.le_refl _) _
      have ROW6:Hid (Row (w5.drew.setCell ⟨w.heap.size,k/32,none⟩ (.int .u32 (z:Int))) p5 c5 (digs (2*r+bv-V))):=Row.set (w:=w5.drew) hr5 hnew5 ⟨w.heap.size,k/32,none⟩ (by have:=hx3.size;have:=hx4.size;show w.heap.size<w4.heap.size;omega) _
      have X8:=Lib.hid hx8
      clear hown5 hown6 hx8 hxx5 hx7 hx6 hx5 hx4 hr5 CP MN
      have hI1:(k:Int)/32<(m:Int):=by omega
      have hI2:(0:Int)<=(k:Int)/32:=by omega
      have hI3:IntKind.i64.wrap ((k:Int)/32)=(k:Int)/32:=IntWalk.i64_in _ (by omega)
      have hI4:((k:Int)/32).toNat=k/32:=by omega
      have hI5:IntKind.i64.wrap ((k:Int)%32)=(k:Int)%32:=IntWalk.i64_in _ (by omega)
      have hI6:((k:Int)%32).toNat=k%32:=by omega
      have hI7:(0:Int)<=(k:Int)%32:=by omega
      have hI8:(k:Int)%32<32:=by omega
      go_upto_region 11 with (fail)
      go_still_tail 13,(by kernel_rfl)
      go_wp2
      exact⟨⟨k,2*r+bv-V,q.set (k/32) z,p5,_,c5,rfl,rfl,rfl,ROW6.out,ONE2.out,by omega,OWN6.out,X8.out⟩,by simp[intOf]⟩
     ·have hlt : 2 * r + bv < V := by omega
      have D1:decide (0<=cmpL (digs (2*r+bv)) b)=false:=by rw[decide_eq_false_iff_not,CD.out];exact hge
      have ZERO2:=Lib.hid (ZERO.out hlt)
      obtain⟨c,C⟩:∃c,Hid (cmpL (digs (2*r+bv)) b=c):=⟨_,rfl⟩
      rw[C.out] at CP D1
      have HR3:=Lib.hid hr3
      obtain⟨l3,L3⟩:∃l,Hid ((digs (2*r+bv)).length=l):=⟨_,rfl⟩
      rw[L3.out] at CP ⊢
      clear hr3 hge
      go_wp2_with fail
      refine CP.out.mono ?_
      rintro e w4 ⟨rfl,hx4⟩
      have hx7:Ext wr w4:=hx3.trans (hx4.mono hx3.size)
      have OWN4:=Lib.hid (ownsRow_extT OWN.out hx7)
      have X4:=Lib.hid (EX0.out.trans (hx7.mono EX0.out.size))
      have HR4:=Lib.hid (HR3.out.ext hx4)
      clear hx7 hx4 CP
      go_wp2
      exact⟨⟨k,2*r+bv,q,p3,l3,c3,rfl,rfl,L3.out.symm,HR4.out,ZERO2.out,by omega,OWN4.out,X4.out⟩,by simp[intOf]⟩
    ·skip
     have hb0':bv=0:=by omega
     have E1:((bv:Int)==1)=false:=by rw[hb0'];rfl
     have eR:2*r=2*r+bv:=by omega
     have hr3:Row w2 p2 c2 (digs (2*r+bv)):=by rw[<- eR];exact hr2
     rw[show (digs (2*r)).length=(digs (2*r+bv)).length by rw[<- eR]]
     clear hb0' hbv hr2 eR
     have hxx3:Ext w w2:=EX0.out.trans (hx2.mono EX0.out.size)
     have CP:=Lib.hid (r01_compare (digs (2*r+bv)) b p2 pb (digs (2*r+bv)).length c2 b.length cb w2 hr3 (ROWB.out.ext hxx3) rfl rfl)
     by_cases hge:V<=2*r+bv
     ·have D1 : decide (0 <= cmpL (digs (2 * r + bv)) b) = true := by rw [decide_eq_true_eq]; exact (CD.out _).2 hge
      have ONE2:=Lib.hid (ONE.out hge)
      obtain⟨c,C⟩:∃c,Hid (cmpL (digs (2*r+bv)) b=c):=⟨_,rfl⟩
      rw[C.out] at CP D1
      have LR3:=RL.out (2*r+bv) (by omega)
      have LB3:=tight_len (dig_digs (2*r+bv)) tb (by rw[val_digs,HV.out];exact hge)
      obtain⟨l3,L3⟩:∃l,Hid ((digs (2*r+bv)).length=l):=⟨_,rfl⟩
      rw[L3.out] at CP LR3 LB3 ⊢
      have MN:=Lib.hid (fun W (hW:Ext w2 W)=>r01_minus (digs (2*r+bv)) b p2 pb l3 c2 b.length cb W (hr3.ext hW) (ROWB.out.ext (hxx3.trans (hW.mono hxx3.size))) L3.out.symm rfl (by rw[L3.out];omega) (by rw[L3.out];exact LB3) (by rw[val_digs,HV.out];exact hge))
      rw[val_digs,HV.out] at MN
      have HR3:=Lib.hid hr3
      clear hr3 hge
      go_wp2_with fail
      refine CP.out.mono ?_
      rintro e w4 ⟨rfl,hx4⟩
      go_wp2_with fail
      refine (MN.out _ hx4).mono ?_
      rintro e w5 ⟨p5,c5,rfl,hr5,hnew5,hx5⟩
      have hx6:Ext w2 w5:=Ext.step hx4 hx5
      have hx7:Ext wr w5:=hx2.trans (hx6.mono hx2.size)
      have hown5:=ownsRow_extT OWN.out hx7
      have kq5:=(hx7.cell (p:=⟨w.heap.size,k/32,none⟩) (World.ownsRow.lt OWN.out w.heap.size rfl).2).trans kq
      have fq5:=World.ownsRow.frozenAt hown5 (k/32)
      have hxx5:Ext w w5:=EX0.out.trans (hx7.mono EX0.out.size)
      have hwl:=(World.ownsRow.lt hown5 w.heap.size rfl).2
      have hwl0:=(World.ownsRow.lt OWN.out w.heap.size rfl).2
      obtain⟨hown6,_⟩:=World.ownsRow.stored (w:=w5.drew) hown5 (k/32) (.int .u32 (z:Int))
      have eS:(enc q).set (k/32) (.int .u32 (z:Int))=enc (q.set (k/32) z):=by rw[enc,enc,List.map_set]
      rw[eS] at hown6
      have OWN6:=Lib.hid hown6
      have hx8:Ext w (w5.drew.setCell ⟨w.heap.size,k/32,none⟩ (.int .u32 (z:Int))):=(Below.drew hxx5).setCell (Nat.le_refl _) _
      have ROW6:Hid (Row (w5.drew.setCell ⟨w.heap.size,k/32,none⟩ (.int .u32 (z:Int))) p5 c5 (digs (2*r+bv-V))):=Row.set (w:=w5.drew) hr5 hnew5 ⟨w.heap.size,k/32,none⟩ (by have:=hx2.size;have:=hx4.size;show w.heap.size<w4.heap.size;omega) _
      have X8:=Lib.hid hx8
      clear hown5 hown6 hx8 hxx5 hx7 hx6 hx5 hx4 hr5 CP MN
      have hI1:(k:Int)/32<(m:Int):=by omega
      have hI2:(0:Int)<=(k:Int)/32:=by omega
      have hI3:IntKind.i64.wrap ((k:Int)/32)=(k:Int)/32:=IntWalk.i64_in _ (by omega)
      have hI4:((k:Int)/32).toNat=k/32:=by omega
      have hI5:IntKind.i64.wrap ((k:Int)%32)=(k:Int)%32:=IntWalk.i64_in _ (by omega)
      have hI6:((k:Int)%32).toNat=k%32:=by omega
      have hI7:(0:Int)<=(k:Int)%32:=by omega
      have hI8:(k:Int)%32<32:=by omega
      go_upto_region 11 with (fail)
      go_still_tail 13,(by kernel_rfl)
      go_wp2
      exact⟨⟨k,2*r+bv-V,q.set (k/32) z,p5,_,c5,rfl,rfl,rfl,ROW6.out,ONE2.out,by omega,OWN6.out,X8.out⟩,by simp[intOf]⟩
     ·have hlt : 2 * r + bv < V := by omega
      have D1:decide (0<=cmpL (digs (2*r+bv)) b)=false:=by rw[decide_eq_false_iff_not,CD.out];exact hge
      have ZERO2:=Lib.hid (ZERO.out hlt)
      obtain⟨c,C⟩:∃c,Hid (cmpL (digs (2*r+bv)) b=c):=⟨_,rfl⟩
      rw[C.out] at CP D1
      have HR3:=Lib.hid hr3
      obtain⟨l3,L3⟩:∃l,Hid ((digs (2*r+bv)).length=l):=⟨_,rfl⟩
      rw[L3.out] at CP ⊢
      clear hr3 hge
      go_wp2_with fail
      refine CP.out.mono ?_
      rintro e w4 ⟨rfl,hx4⟩
      have hx7:Ext wr w4:=hx2.trans (hx4.mono hx2.size)
      have OWN4:=Lib.hid (ownsRow_extT OWN.out hx7)
      have X4:=Lib.hid (EX0.out.trans (hx7.mono EX0.out.size))
      have HR4:=Lib.hid (HR3.out.ext hx4)
      clear hx7 hx4 CP
      go_wp2
      exact⟨⟨k,2*r+bv,q,p2,l3,c2,rfl,rfl,L3.out.symm,HR4.out,ZERO2.out,by omega,OWN4.out,X4.out⟩,by simp[intOf]⟩
end

set_option maxHeartbeats 4000000
set_option maxRecDepth 100000
section
attribute [local go_sem] Gives givesU
theorem RDiv_no(a b:Nm)(na nb:Bool)(pa pb:Option Addr)(la ca lb cb:Nat)(w:World)(ha:NR w na pa la ca a)(hb:NR w nb pb lb cb b)
  (hno:a.right=false\/b.right=false\/b.neg=true\/b.d.length=0):Calls Tryz.prog 125 #[.agg #[.bool na,.slice pa la ca],.agg #[.bool nb,.slice pb lb cb]] w (RetDiv w (divP a b)):=by
 have RA:=Lib.hid (fun w' (hx:Ext w w')=>r01_Right a na pa la ca w' (ha.ext hx))
 have RB:=Lib.hid (fun w' (hx:Ext w w')=>r01_Right b nb pb lb cb w' (hb.ext hx))
 have NO:∀W',Ext w W'->RetDiv w (divP a b) (.returned (.tuple #[.agg #[.bool false,.slice none 0 0],.agg #[.bool false,.slice none 0 0],.bool false])) W':=by
  intro W' hx
  rw[divP_no hno]
  exact⟨false,none,0,0,false,none,0,0,rfl,⟨rfl,rfl,Row.nil _⟩,⟨rfl,rfl,Row.nil _⟩,New.none _,New.none _,hx⟩
 replace NO:=Lib.hid NO
 have hnb:=hb.1
 have hlb:=hb.2.1
 rw[hnb] at RB ⊢
 rw[hlb] at RB ⊢
 have HNO:=Lib.hid hno
 clear hnb hlb hno ha hb
 cases ra:a.right with
 | false =>
  rw[ra] at RA
  go_enter Tryz.func125,Tryz.ntmps125
  go_wp2_with fail
  refine (RA.out _ bxx).mono ?_
  rintro e w1 ⟨rfl,hx⟩
  have hx0:Ext w w1:=Ext.step bxx hx
  obtain⟨_,⟨_,_,_⟩,⟨_,_,_⟩,⟨_,_,_⟩,_,_,_⟩:=keepK4 hx w.heap.size
  go_wp2
  refine bodyPost_ret (v:=.tuple #[.agg #[.bool false,.slice none 0 0],.agg #[.bool false,.slice none 0 0],.bool false]) (by simp only[results,Tryz.results125];go_simp) rfl ?_
  exact NO.out _ bxx
 | true =>
  rw[ra] at RA
  cases rb:b.right with
  | false =>
   rw[rb] at RB
   go_enter Tryz.func125,Tryz.ntmps125
   go_wp2_with fail
   refine (RA.out _ bxx).mono ?_
   rintro e w1 ⟨rfl,hx⟩
   have hx0:Ext w w1:=Ext.step bxx hx
   obtain⟨_,⟨_,_,_⟩,⟨_,_,_⟩,⟨_,_,_⟩,_,_,_⟩:=keepK4 hx w.heap.size
   go_wp2_with fail
   refine (RB.out _ bxx).mono ?_
   rintro e w2 ⟨rfl,hx2⟩
   have hx1:Ext w w2:=Ext.step bxx hx2
   obtain⟨_,⟨_,_,_⟩,⟨_,_,_⟩,⟨_,_,_⟩,_,_,_⟩:=keepK4 hx2 w.heap.size
   go_wp2
   refine bodyPost_ret (v:=.tuple #[.agg #[.bool false,.slice none 0 0],.agg #[.bool false,.slice none 0 0],.bool false]) (by simp only[results,Tryz.results125];go_simp) rfl ?_
   exact NO.out _ bxx
  | true =>
   rw[rb] at RB
   obtain⟨bn,BN⟩:∃x,Hid (b.neg=x):=⟨_,rfl⟩
   obtain⟨bl,BL⟩:∃x,Hid (b.d.length=x):=⟨_,rfl⟩
   have H3:bn=true\/bl=0:=by
    rcases HNO.out with h|h|h|h
    ·rw[ra] at h;cases h
    ·rw[rb] at h;cases h
    ·exact .inl (BN.out.symm.trans h)
    ·exact .inr (BL.out.symm.trans h)
   rw[BN.out,BL.out] at RB ⊢
   clear ra rb
   cases bn
   ·obtain rfl : bl = 0 := by rcases H3 with h | h; (cases h); exact h
    clear H3
    go_enter Tryz.func125,Tryz.ntmps125
    go_wp2_with fail
    refine (RA.out _ bxx).mono ?_
    rintro e w1 ⟨rfl,hx⟩
    have hx0:Ext w w1:=Ext.step bxx hx
    obtain⟨_,⟨_,_,_⟩,⟨_,_,_⟩,⟨_,_,_⟩,_,_,_⟩:=keepK4 hx w.heap.size
    go_wp2_with fail
    refine (RB.out _ bxx).mono ?_
    rintro e w2 ⟨rfl,hx2⟩
    have hx1:Ext w w2:=Ext.step bxx hx2
    obtain⟨_,⟨_,_,_⟩,⟨_,_,_⟩,⟨_,_,_⟩,_,_,_⟩:=keepK4 hx2 w.heap.size
    go_wp2
    refine bodyPost_ret (v:=.tuple #[.agg #[.bool false,.slice none 0 0],.agg #[.bool false,.slice none 0 0],.bool false]) (by simp only[results,Tryz.results125];go_simp) rfl ?_
    exact NO.out _ bxx
   ·clear H3
    go_enter Tryz.func125,Tryz.ntmps125
    go_wp2_with fail
    refine (RA.out _ bxx).mono ?_
    rintro e w1 ⟨rfl,hx⟩
    have hx0:Ext w w1:=Ext.step bxx hx
    obtain⟨_,⟨_,_,_⟩,⟨_,_,_⟩,⟨_,_,_⟩,_,_,_⟩:=keepK4 hx w.heap.size
    go_wp2_with fail
    refine (RB.out _ bxx).mono ?_
    rintro e w2 ⟨rfl,hx2⟩
    have hx1:Ext w w2:=Ext.step bxx hx2
    obtain⟨_,⟨_,_,_⟩,⟨_,_,_⟩,⟨_,_,_⟩,_,_,_⟩:=keepK4 hx2 w.heap.size
    go_wp2
    refine bodyPost_ret (v:=.tuple #[.agg #[.bool false,.slice none 0 0],.agg #[.bool false,.slice none 0 0],.bool false]) (by simp only[results,Tryz.results125];go_simp) rfl ?_
    exact NO.out _ bxx
end
end Go.Proofs.YtceemiodpccbhaaGreat
