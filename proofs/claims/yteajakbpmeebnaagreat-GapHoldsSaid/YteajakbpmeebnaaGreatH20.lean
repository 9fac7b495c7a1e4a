import Derived.Test.YteajakbpmeebnaaGreatH19
set_option linter.unusedVariables false
set_option linter.unusedSimpArgs false

namespace Go.Proofs.YteajakbpmeebnaaGreat
open Go.RowKit

set_option maxHeartbeats 2000000
set_option maxRecDepth 100000
section
def goodB(a:Nm):Bool:=a.right&&decide (a.d.length<=20)
def signP(a b c:Nm):Int:=if goodB a&&(goodB b&&goodB c)&&!c.neg then sideZ a.z b.z c.z else 0
theorem natAbs_val(a:Nm):a.z.natAbs=val a.d:=by unfold Nm.z;split<;>omega
theorem small_one:small 1=true:=by
 unfold small
 rw[decide_eq_true_eq]
 exact Nat.one_lt_pow (by decide) (by decide)
theorem small_of_lt{z:Int}{k:Nat}(h:z.natAbs<4294967296 ^ k)(hk:k<=64):small z=true:=by
 unfold small
 rw[decide_eq_true_eq]
 exact Nat.lt_of_lt_of_le h (Nat.pow_le_pow_right (by decide) hk)
theorem good_lt{a:Nm}(hd:Dig a.d)(h:goodB a=true):a.z.natAbs<4294967296 ^ 20:=by
 simp only[goodB,Bool.and_eq_true,decide_eq_true_eq] at h
 rw[natAbs_val]
 exact Nat.lt_of_lt_of_le (val_lt hd) (Nat.pow_le_pow_right (by decide) h.2)
theorem mul_lt_pow{x y:Int}{m n:Nat}(hx:x.natAbs<4294967296 ^ m)(hy:y.natAbs<4294967296 ^ n):(x*y).natAbs<4294967296 ^ (m+n):=by
 rw[Int.natAbs_mul,Nat.pow_add]
 exact Nat.mul_lt_mul'' hx hy
theorem small_two{a b:Nm}{m n:Nat}(ha:a.z.natAbs<4294967296 ^ m)(hb:b.z.natAbs<4294967296 ^ n)(hk:m+n<=64):∀k,small (prodZ ([a,b].take k))=true:=by
 intro k
 match k with
 | 0=>exact small_one
 | 1 =>
  have e:prodZ ([a,b].take 1)=a.z:=by simp[prodZ]
  rw[e];exact small_of_lt ha (by omega)
 | k+2 =>
  have e:prodZ ([a,b].take (k+2))=a.z*b.z:=by simp[prodZ]
  rw[e];exact small_of_lt (mul_lt_pow ha hb) hk
theorem small_three{a b c:Nm}{m n o:Nat}(ha:a.z.natAbs<4294967296 ^ m)(hb:b.z.natAbs<4294967296 ^ n)(hc:c.z.natAbs<4294967296 ^ o)(hk:m+n+o<=64):∀k,small (prodZ ([a,b,c].take k))=true:=by
 intro k
 match k with
 | 0=>exact small_one
 | 1 =>
  have e:prodZ ([a,b,c].take 1)=a.z:=by simp[prodZ]
  rw[e];exact small_of_lt ha (by omega)
 | 2 =>
  have e:prodZ ([a,b,c].take 2)=a.z*b.z:=by simp[prodZ]
  rw[e];exact small_of_lt (mul_lt_pow ha hb) (by omega)
 | k+3 =>
  have e:prodZ ([a,b,c].take (k+3))=a.z*b.z*c.z:=by simp[prodZ]
  rw[e];exact small_of_lt (mul_lt_pow (mul_lt_pow ha hb) hc) hk
def NRl(w:World)(b:Nat)(l:List Nm):Prop :=
 b<w.heap.size/\∀i a,l[i]? = some a->∃n p li c,w.cell? ⟨b,i*2,none⟩=some (.bool n)/\w.cell? ⟨b,i*2+1,none⟩=some (.slice p li c)/\NR w n p li c a
theorem NRl.ext{w w':World}{b:Nat}{l:List Nm}(h:NRl w b l)(hx:Ext w w'):NRl w' b l:=by
 refine⟨Nat.lt_of_lt_of_le h.1 hx.size,fun i a hi=>?_⟩
 obtain⟨n,p,li,c,h1,h2,h3⟩:=h.2 i a hi
 exact⟨n,p,li,c,by rw[hx.cell (p:=⟨b,i*2,none⟩) h.1];exact h1,by rw[hx.cell (p:=⟨b,i*2+1,none⟩) h.1];exact h2,h3.ext hx⟩
theorem NRl_three{W:World}{n1 n2 n3:Bool}{p1 p2 p3:Option Addr}{l1 c1 l2 c2 l3 c3 B:Nat}{a b c:Nm}(T:TypeId)(h1:NR W n1 p1 l1 c1 a)(h2:NR W n2 p2 l2 c2 b)(h3:NR W n3 p3 l3 c3 c)(hB:B=W.heap.size) :
  NRl (W.alloc (.cells #[.bool n1,.slice p1 l1 c1,.bool n2,.slice p2 l2 c2,.bool n3,.slice p3 l3 c3] T)) B [a,b,c]:=by
 subst hB
 have hh:=heap_alloc_new W (.cells #[.bool n1,.slice p1 l1 c1,.bool n2,.slice p2 l2 c2,.bool n3,.slice p3 l3 c3] T)
 refine⟨by simp,fun i x hi=>?_⟩
 match i,hi with
 | 0,hi =>
  simp only[List.getElem?_cons_zero,Option.some.injEq] at hi
  subst hi
  exact⟨n1,p1,l1,c1,by rw[cell_of_row _ _ _ _ _ _ hh];rfl,by rw[cell_of_row _ _ _ _ _ _ hh];rfl,h1.alloc _⟩
 | 1,hi =>
  simp only[List.getElem?_cons_succ,List.getElem?_cons_zero,Option.some.injEq] at hi
  subst hi
  exact⟨n2,p2,l2,c2,by rw[cell_of_row _ _ _ _ _ _ hh];rfl,by rw[cell_of_row _ _ _ _ _ _ hh];rfl,h2.alloc _⟩
 | 2,hi =>
  simp only[List.getElem?_cons_succ,List.getElem?_cons_zero,Option.some.injEq] at hi
  subst hi
  exact⟨n3,p3,l3,c3,by rw[cell_of_row _ _ _ _ _ _ hh];rfl,by rw[cell_of_row _ _ _ _ _ _ hh];rfl,h3.alloc _⟩
 | i+3,hi=>simp at hi
theorem signP_bad{a b c:Nm}(k:Nat)(x:Nm)(hx:[a,b,c][k]? = some x)(h:goodB x=false):signP a b c=0:=by
 unfold signP
 match k,hx with
 | 0,hx=>simp only[List.getElem?_cons_zero,Option.some.injEq] at hx;subst hx;simp[h]
 | 1,hx=>simp only[List.getElem?_cons_succ,List.getElem?_cons_zero,Option.some.injEq] at hx;subst hx;simp[h]
 | 2,hx=>simp only[List.getElem?_cons_succ,List.getElem?_cons_zero,Option.some.injEq] at hx;subst hx;simp[h]
 | k+3,hx=>simp at hx
theorem root_Sign(a b c:Nm)(na nb nc:Bool)(pa pb pc:Option Addr)(la ca lb cb lc cc:Nat)(w:World)(ha:NR w na pa la ca a)(hb:NR w nb pb lb cb b)(hc:NR w nc pc lc cc c) :
  Calls Tryz.prog 237 #[.agg #[.bool na,.slice pa la ca],.agg #[.bool nb,.slice pb lb cb],.agg #[.bool nc,.slice pc lc cc]] w fun e w'=>e=.returned (.int .i64 (signP a b c))/\Ext w w':=by
 have hmf:∀(fn:Fn) (first cap:Array Value) (w:World),(Instr.makeFunc fn first cap).run Tryz.prog w=.ok (.func fn first cap) w:=fun _ _ _ _=>rfl
 go_enter Tryz.func237,Tryz.ntmps237
 go_wp2_with fail
 obtain⟨w1,W1⟩:∃w1,Hid ((((w.alloc (.cells #[.bool na,.slice pa la ca] 47)).alloc (.cells #[.bool nb,.slice pb lb cb] 47)).alloc (.cells #[.bool nc,.slice pc lc cc] 47)).alloc (.cells #[.bool na,.slice pa la ca,.bool nb,.slice pb lb cb,.bool nc,.slice pc lc cc] 47)=w1):=⟨_,rfl⟩
 rw[W1.out]
 have NL:NRl w1 (w.heap.size+3) [a,b,c]:=by
  rw[<- W1.out]
  exact NRl_three _ (ha.ext bxx) (hb.ext bxx) (hc.ext bxx) (by simp)
 have hx1:Ext w w1:=by rw[<- W1.out];exact bxx
 have a0:w1.cell? ⟨w.heap.size,0,none⟩=some (.bool na):=by rw[<- W1.out];go_simp
 have a1:w1.cell? ⟨w.heap.size,1,none⟩=some (.slice pa la ca):=by rw[<- W1.out];go_simp
 have b0:w1.cell? ⟨w.heap.size+1,0,none⟩=some (.bool nb):=by rw[<- W1.out];go_simp
 have b1:w1.cell? ⟨w.heap.size+1,1,none⟩=some (.slice pb lb cb):=by rw[<- W1.out];go_simp
 have c0:w1.cell? ⟨w.heap.size+2,0,none⟩=some (.bool nc):=by rw[<- W1.out];go_simp
 have c1:w1.cell? ⟨w.heap.size+2,1,none⟩=some (.slice pc lc cc):=by rw[<- W1.out];go_simp
 have hz1:w.heap.size+4<=w1.heap.size:=by rw[<- W1.out];simp
 have HNL:=Lib.hid NL
 have A0:=Lib.hid a0
 have A1:=Lib.hid a1
 have B0:=Lib.hid b0
 have B1:=Lib.hid b1
 have C0:=Lib.hid c0
 have C1:=Lib.hid c1
 clear NL a0 a1 b0 b1 c0 c1
 go_loopw [14] (fun i wr=>∃k:Nat,k<=3/\i=.int .i64 (k:Int)/\(∀j x,j<k->[a,b,c][j]? = some x->goodB x=true)/\Ext w1 wr) (fun i _=>3-(intOf i).toNat)
 case atStart=>exact⟨0,by omega,rfl,fun j x hj _=>absurd hj (Nat.not_lt_zero j),Below.refl _ _⟩
 case round =>
  obtain⟨k,hk,rfl,hgood,hx⟩:=hrel
  have GOOD:=Lib.hid hgood
  clear hgood
  have hx2:=Ext.step hx1 hx
  have hzr:w.heap.size+4<=wr.heap.size:=Nat.le_trans hz1 hx.size
  by_cases hlt:k<3
  ·obtain ⟨x, XX⟩ : ∃ x, Hid ([a, b, c][k]? = some x) := ⟨[a, b, c][k], List.getElem?_eq_getElem hlt⟩
   obtain⟨n,p,l,cp,e0,e1,hnx⟩:=(HNL.out.ext hx).2 k x XX.out
   have hlen:=hnx.2.1
   have hlc:=hnx.2.2.le
   have hcm:=hnx.2.2.max
   have HLEN:=Lib.hid hlen
   have hl64:l<=9223372036854775807:=by omega
   clear hlen
   by_cases rx:x.right=true
   ·by_cases hl : l <= 20
    ·have GX:Hid (goodB x=true):=by
      show goodB x=true
      unfold goodB
      rw[rx,<- HLEN.out]
      simpa using hl
     go_wp2_with fail
     refine (num_Right x _ _ _ _ _ (hnx.ext bxx)).mono ?_
     rintro e w2 ⟨rfl,hx3⟩
     rw[rx]
     have hx4:Ext wr w2:=Ext.step bxx hx3
     have hx5:Ext w1 w2:=Ext.step hx hx4
     have q1:w2.cell? ⟨wr.heap.size,1,none⟩=some (.slice p l cp):=(hx3.cell (p:=⟨wr.heap.size,1,none⟩) (by simp)).trans (by go_simp)
     go_wp2
     refine⟨⟨k+1,by omega,rfl,fun j y hj hy=>?_,hx5⟩,by simp[intOf];omega⟩
     rcases Nat.lt_or_ge j k with h|h
     ·exact GOOD.out j y h hy
     ·obtain rfl : j = k := by omega
      rw[XX.out] at hy
      cases hy
      exact GX.out
    ·have GX:Hid (signP a b c=0):=by
      refine signP_bad k x XX.out ?_
      unfold goodB
      rw[rx,<- HLEN.out]
      simpa using hl
     go_wp2_with fail
     refine (num_Right x _ _ _ _ _ (hnx.ext bxx)).mono ?_
     rintro e w2 ⟨rfl,hx3⟩
     rw[rx]
     have hx4:Ext wr w2:=Ext.step bxx hx3
     have hx5:Ext w w2:=Ext.step hx2 hx4
     have q1:w2.cell? ⟨wr.heap.size,1,none⟩=some (.slice p l cp):=(hx3.cell (p:=⟨wr.heap.size,1,none⟩) (by simp)).trans (by go_simp)
     go_wp2
     go_ret
     exact⟨by rw[GX.out];rfl,hx5⟩
   ·have rx : x.right = false := by simpa using rx
    have GX:Hid (signP a b c=0):=by
     refine signP_bad k x XX.out ?_
     unfold goodB
     rw[rx]
     rfl
    go_wp2_with fail
    refine (num_Right x _ _ _ _ _ (hnx.ext bxx)).mono ?_
    rintro e w2 ⟨rfl,hx3⟩
    rw[rx]
    have hx4:Ext wr w2:=Ext.step bxx hx3
    have hx5:Ext w w2:=Ext.step hx2 hx4
    go_wp2
    go_ret
    exact⟨by rw[GX.out];rfl,hx5⟩
  ·obtain rfl : k = 3 := by omega
   have ga:goodB a=true:=GOOD.out 0 a (by omega) rfl
   have gb:goodB b=true:=GOOD.out 1 b (by omega) rfl
   have gc:goodB c=true:=GOOD.out 2 c (by omega) rfl
   have hc0:wr.cell? ⟨w.heap.size+2,0,none⟩=some (.bool nc):=(hx.cell (p:=⟨w.heap.size+2,0,none⟩) (show w.heap.size+2<w1.heap.size by omega)).trans C0.out
   cases hneg:c.neg with
   | true =>
    have S:Hid (signP a b c=0):=by
     show signP a b c=0
     simp[signP,hneg]
    have hnc:nc=true:=hc.1.trans hneg
    subst hnc
    clear hneg
    go_wp2
    go_ret
    exact⟨by rw[S.out];rfl,hx2⟩
   | false =>
    have S:Hid (signP a b c=sideZ a.z b.z c.z):=by
     show signP a b c=_
     simp[signP,hneg,ga,gb,gc]
    have hnc:nc=false:=hc.1.trans hneg
    subst hnc
    have ra:a.right=true:=by simp only[goodB,Bool.and_eq_true] at ga;exact ga.1
    have rb:b.right=true:=by simp only[goodB,Bool.and_eq_true] at gb;exact gb.1
    have rc:c.right=true:=by simp only[goodB,Bool.and_eq_true] at gc;exact gc.1
    have s1:=Lib.hid (small_two (good_lt ha.2.2.dig ga) (good_lt ha.2.2.dig ga) (by omega))
    have s2:=Lib.hid (small_three (good_lt hb.2.2.dig gb) (good_lt hb.2.2.dig gb) (good_lt hc.2.2.dig gc) (by omega))
    clear hneg ga gb gc
    go_wp2_with fail
    refine (root_guarded_sign a b c _ _ _ _ _ _ _ _ _ _ _ _ _ _ _ _ (ha.ext hx2) (hb.ext hx2) (hc.ext hx2) ra rb rc s1.out s2.out ((hx.cell (p:=⟨w.heap.size,0,none⟩) (show w.heap.size<w1.heap.size by omega)).trans A0.out) ((hx.cell (p:=⟨w.heap.size,1,none⟩) (show w.heap.size<w1.heap.size by omega)).trans A1.out) ((hx.cell (p:=⟨w.heap.size+1,0,none⟩) (show w.heap.size+1<w1.heap.size by omega)).trans B0.out) ((hx.cell (p:=⟨w.heap.size+1,1,none⟩) (show w.heap.size+1<w1.heap.size by omega)).trans B1.out) hc0 ((hx.cell (p:=⟨w.heap.size+2,1,none⟩) (show w.heap.size+2<w1.heap.size by omega)).trans C1.out)).mono ?_
    rintro e w2 ⟨rfl,hx3⟩
    have hx5:Ext w w2:=Ext.step hx2 hx3
    go_wp2
    go_ret
    exact⟨by rw[S.out];rfl,hx5⟩
end
theorem ps_eq{x y:Re}(h:ps x)(e:∀k,x.f k=y.f k):ps y:=by
 obtain⟨d,N,hd,h⟩:=h
 exact⟨d,N,hd,fun k hk=>by rw[<- e];exact h k hk⟩
theorem int_nn{z:Int}(h:0<=z):nn (Re.int z):=nn_of fun _=>Rat.intCast_nonneg.2 h
theorem int_ps{z:Int}(h:0<z):ps (Re.int z):=⟨1,0,by decide,fun _ _=>by
 have:(1:Int)<=z:=h
 exact Rat.intCast_le_intCast.2 this⟩
theorem nn_not{x:Re}(h:¬ps x):nn x.neg:=by
 rcases Classical.em (nn x.neg) with g|g
 ·exact g
 ·exact absurd (ps_of g) h
theorem ps_not2{x:Re}(h:ps x.neg):¬nn x:=fun g=>ps_not h (nn_eq g fun k=>by show x.f k = - -x.f k;grind)
theorem sq_ps{x y:Re}(hx:nn x)(hy:nn y)(h:ps ((x.mul x).add (y.mul y).neg)):ps (x.add y.neg):=by
 apply Classical.byContradiction
 intro g
 have g1:=nn_mul (nn_not g) (nn_add hx hy)
 refine ps_not h (nn_eq g1 fun k=>?_)
 show -(x.f k + -y.f k)*(x.f k+y.f k) = -(x.f k*x.f k + -(y.f k*y.f k))
 grind
theorem sq_nn'{x y:Re}(hx:nn x)(hy:nn y)(h:nn ((x.mul x).add (y.mul y).neg)):nn (x.add y.neg):=by
 rcases nn_or (x.add y.neg) with g|g
 ·exact g
 ·by_cases hp : ps (x.add y.neg).neg
  ·exfalso
   have h1:ps (x.add y)\/¬ps (x.add y):=Classical.em _
   have h2:ps (y.add x):=by
    have:ps (((x.add y.neg).neg).add (x.add x)):=ps_add hp (nn_add hx hx)
    exact ps_eq this fun k=>by show -(x.f k + -y.f k)+(x.f k+x.f k)=y.f k+x.f k;grind
   have h3:=ps_mul hp h2
   exact ps_not h3 (nn_eq h fun k=>by show x.f k*x.f k + -(y.f k*y.f k) = -(-(x.f k + -y.f k)*(y.f k+x.f k));grind)
  ·exact nn_eq (nn_not hp) fun k=>by show - -(x.f k + -y.f k)=x.f k + -y.f k;grind
def lin(a b:Int)(c:Nat):Re:=(Re.int a).add ((Re.int b).mul (Re.rt c))
theorem rtf_zero(k:Nat):rtf 0 k=0:=by
 unfold rtf
 rw[Nat.zero_mul]
 have:((isq 0:Nat):Rat)=0:=rfl
 rw[this,Rat.div_def,Rat.zero_mul]
theorem rt_ps{c:Nat}(h:0<c):ps (Re.rt c):=by
 have h1:ps ((((Re.rt c).mul (Re.rt c))).add ((Re.int 0).mul (Re.int 0)).neg):=by
  have:=ps_add (int_ps (show (0:Int)<(c:Int) by omega)) (rt_dn c)
  refine ps_eq this fun k=>?_
  show ((c:Int):Rat)+(rtf c k*rtf c k + -((c:Int):Rat))=rtf c k*rtf c k + -(((0:Int):Rat)*((0:Int):Rat))
  have:((0:Int):Rat)=0:=rfl
  rw[this]
  grind
 have h2:=sq_ps (rt_nn c) (int_nn (Int.le_refl 0)) h1
 refine ps_eq h2 fun k=>?_
 show rtf c k + -((0:Int):Rat)=rtf c k
 have:((0:Int):Rat)=0:=rfl
 rw[this]
 grind
theorem sgn_cases(z:Int):(sgn z=1/\0<z)\/(sgn z=0/\z=0)\/(sgn z = -1/\z<0):=by
 unfold sgn cmpZ
 rcases Int.lt_trichotomy z 0 with h|h|h
 ·right;right;rw[if_pos h];exact⟨rfl,h⟩
 ·right;left;rw[if_neg (by omega),if_pos h];exact⟨rfl,h⟩
 ·left;rw[if_neg (by omega),if_neg (by omega)];exact⟨rfl,h⟩
theorem cmpZ_case(a b:Int):(cmpZ a b=1/\b<a)\/(cmpZ a b=0/\a=b)\/(cmpZ a b = -1/\a<b):=by
 unfold cmpZ
 rcases Int.lt_trichotomy a b with h|h|h
 ·right;right;rw[if_pos h];exact⟨rfl,h⟩
 ·right;left;rw[if_neg (by omega),if_pos h];exact⟨rfl,h⟩
 ·left;rw[if_neg (by omega),if_neg (by omega)];exact⟨rfl,h⟩
theorem lin_f(a b:Int)(c k:Nat):(lin a b c).f k=(a:Rat)+(b:Rat)*rtf c k:=rfl
theorem lin_ps1{a b:Int}{c:Nat}(ha:0<a)(hb:b<0)(h:b*b*(c:Int)<a*a):ps (lin a b c):=by
 have h1:ps (((Re.int a).mul (Re.int a)).add (((Re.int (-b)).mul (Re.rt c)).mul ((Re.int (-b)).mul (Re.rt c))).neg):=by
  have:=ps_add (int_ps (show 0<a*a-b*b*(c:Int) by omega)) (nn_mul (nn_mul (int_nn (show 0 <= -b by omega)) (int_nn (show 0 <= -b by omega))) (rt_up c))
  refine ps_eq this fun k=>?_
  show ((a*a-b*b*(c:Int):Int):Rat)+((-b:Int):Rat)*((-b:Int):Rat)*(((c:Int):Rat) + -(rtf c k*rtf c k))=(a:Rat)*(a:Rat) + -(((-b:Int):Rat)*rtf c k*(((-b:Int):Rat)*rtf c k))
  rw[Rat.intCast_sub,Rat.intCast_mul,Rat.intCast_mul,Rat.intCast_mul,Rat.intCast_neg]
  grind
 have h2:=sq_ps (int_nn (Int.le_of_lt ha)) (nn_mul (int_nn (show 0 <= -b by omega)) (rt_nn c)) h1
 refine ps_eq h2 fun k=>?_
 show (a:Rat) + -(((-b:Int):Rat)*rtf c k)=(a:Rat)+(b:Rat)*rtf c k
 rw[Rat.intCast_neg]
 grind
theorem lin_ps2{a b:Int}{c:Nat}(ha:a<0)(hb:0<b)(h:a*a<b*b*(c:Int)):ps (lin a b c):=by
 have h1:ps ((((Re.int b).mul (Re.rt c)).mul ((Re.int b).mul (Re.rt c))).add ((Re.int (-a)).mul (Re.int (-a))).neg):=by
  have:=ps_add (int_ps (show 0<b*b*(c:Int)-a*a by omega)) (nn_mul (nn_mul (int_nn (show 0<=b by omega)) (int_nn (show 0<=b by omega))) (rt_dn c))
  refine ps_eq this fun k=>?_
  show ((b*b*(c:Int)-a*a:Int):Rat)+(b:Rat)*(b:Rat)*(rtf c k*rtf c k + -((c:Int):Rat))=(b:Rat)*rtf c k*((b:Rat)*rtf c k) + -(((-a:Int):Rat)*((-a:Int):Rat))
  rw[Rat.intCast_sub,Rat.intCast_mul,Rat.intCast_mul,Rat.intCast_mul,Rat.intCast_neg]
  grind
 have h2:=sq_ps (nn_mul (int_nn (show 0<=b by omega)) (rt_nn c)) (int_nn (show 0 <= -a by omega)) h1
 refine ps_eq h2 fun k=>?_
 show (b:Rat)*rtf c k + -((-a:Int):Rat)=(a:Rat)+(b:Rat)*rtf c k
 rw[Rat.intCast_neg]
 grind
theorem lin_z1{a b:Int}{c:Nat}(ha:0<a)(hb:b<0)(h:a*a=b*b*(c:Int)):nn (lin a b c)/\nn (lin a b c).neg:=by
 have e:((a*a:Int):Rat)=((b*b*(c:Int):Int):Rat):=by rw[h]
 rw[Rat.intCast_mul,Rat.intCast_mul,Rat.intCast_mul] at e
 have n1:=int_nn (show 0 <= -b by omega)
 constructor
 ·have h1:nn (((Re.int a).mul (Re.int a)).add (((Re.int (-b)).mul (Re.rt c)).mul ((Re.int (-b)).mul (Re.rt c))).neg):=by
   refine nn_eq (nn_mul (nn_mul n1 n1) (rt_up c)) fun k=>?_
   show ((-b:Int):Rat)*((-b:Int):Rat)*(((c:Int):Rat) + -(rtf c k*rtf c k))=(a:Rat)*(a:Rat) + -(((-b:Int):Rat)*rtf c k*(((-b:Int):Rat)*rtf c k))
   rw[Rat.intCast_neg]
   grind
  refine nn_eq (sq_nn' (int_nn (Int.le_of_lt ha)) (nn_mul n1 (rt_nn c)) h1) fun k=>?_
  show (a:Rat) + -(((-b:Int):Rat)*rtf c k)=(a:Rat)+(b:Rat)*rtf c k
  rw[Rat.intCast_neg]
  grind
 ·have h1:nn ((((Re.int (-b)).mul (Re.rt c)).mul ((Re.int (-b)).mul (Re.rt c))).add ((Re.int a).mul (Re.int a)).neg):=by
   refine nn_eq (nn_mul (nn_mul n1 n1) (rt_dn c)) fun k=>?_
   show ((-b:Int):Rat)*((-b:Int):Rat)*(rtf c k*rtf c k + -((c:Int):Rat))=((-b:Int):Rat)*rtf c k*(((-b:Int):Rat)*rtf c k) + -((a:Rat)*(a:Rat))
   rw[Rat.intCast_neg]
   grind
  refine nn_eq (sq_nn' (nn_mul n1 (rt_nn c)) (int_nn (Int.le_of_lt ha)) h1) fun k=>?_
  show ((-b:Int):Rat)*rtf c k + -(a:Rat) = -((a:Rat)+(b:Rat)*rtf c k)
  rw[Rat.intCast_neg]
  grind
theorem lin_neg(a b:Int)(c k:Nat):(lin (-a) (-b) c).f k=(lin a b c).neg.f k:=by
 show ((-a:Int):Rat)+((-b:Int):Rat)*rtf c k = -((a:Rat)+(b:Rat)*rtf c k)
 rw[Rat.intCast_neg,Rat.intCast_neg]
 grind
theorem lin_pp{a b:Int}{c:Nat}(ha:0<a)(hb:0<=b\/c=0):ps (lin a b c):=by
 refine ps_add (int_ps ha) ?_
 rcases hb with hb|rfl
 ·exact nn_mul (int_nn hb) (rt_nn c)
 ·refine nn_of fun k => ?_
  show 0<=(b:Rat)*rtf 0 k
  rw[rtf_zero,Rat.mul_zero]
  exact Rat.le_refl
theorem lin_pb{b:Int}{c:Nat}(hb:0<b)(hc:0<c):ps (lin 0 b c):=by
 refine ps_eq (ps_mul (int_ps hb) (rt_ps hc)) fun k=>?_
 show (b:Rat)*rtf c k=((0:Int):Rat)+(b:Rat)*rtf c k
 have:((0:Int):Rat)=0:=rfl
 rw[this]
 grind
def Sg(s:Int)(x:Re):Prop:=(s=1/\ps x)\/(s=0/\nn x/\nn x.neg)\/(s = -1/\ps x.neg)
theorem side_sg(a b:Int)(c:Nat):Sg (sideZ a b (c:Int)) (lin a b c):=by
 have neg:∀ {a b:Int},ps (lin (-a) (-b) c)->ps (lin a b c).neg:=fun h=>ps_eq h (lin_neg _ _ c)
 have zz:∀ {b:Int},b=0\/c=0->nn (lin 0 b c)/\nn (lin 0 b c).neg:=by
  intro b h
  have e:∀k,(lin 0 b c).f k=0:=by
   intro k
   rw[lin_f]
   have:((0:Int):Rat)=0:=rfl
   rw[this]
   rcases h with rfl|rfl
   ·rw[this];grind
   ·rw[rtf_zero];grind
  exact⟨nn_of fun k=>by rw[e];exact Rat.le_refl,nn_of fun k=>by show 0 <= -(lin 0 b c).f k;rw[e];decide⟩
 unfold sideZ
 rcases sgn_cases a with⟨sa,ha⟩|⟨sa,ha⟩|⟨sa,ha⟩<;>rcases sgn_cases b with⟨sb,hb⟩|⟨sb,hb⟩|⟨sb,hb⟩<;>rcases sgn_cases (c:Int) with⟨sc,hc⟩|⟨sc,hc⟩|⟨sc,hc⟩<;>rw[sa,sb,sc]
 all_goals first|omega|skip
 all_goals first|(rw[if_pos (by decide)];first|exact .inl ⟨by decide,lin_pp ha (by omega)⟩|(subst ha;first|exact .inl ⟨by decide,lin_pb hb (by omega)⟩|exact .inr (.inl ⟨by decide,zz (by omega)⟩)|exact .inr (.inr ⟨by decide,neg (lin_pb (show 0 < -b by omega) (by omega))⟩))|exact .inr (.inr ⟨by decide,neg (lin_pp (show 0 < -a by omega) (by omega))⟩))|skip
 ·rw [if_neg (by decide)]
  rcases cmpZ_case (a*a) (b*b*(c:Int)) with⟨h1,h2⟩|⟨h1,h2⟩|⟨h1,h2⟩<;>rw[h1]
  ·exact .inl ⟨by decide,lin_ps1 ha hb h2⟩
  ·exact .inr (.inl ⟨by decide,lin_z1 ha hb h2⟩)
  ·exact .inr (.inr ⟨by decide,neg (lin_ps2 (show -a<0 by omega) (show 0 < -b by omega) (by rw[Int.neg_mul_neg,Int.neg_mul_neg];exact h2))⟩)
 ·rw [if_neg (by decide)]
  rcases cmpZ_case (a*a) (b*b*(c:Int)) with⟨h1,h2⟩|⟨h1,h2⟩|⟨h1,h2⟩<;>rw[h1]
  ·exact .inr (.inr ⟨by decide,neg (lin_ps1 (show 0 < -a by omega) (show -b<0 by omega) (by rw[Int.neg_mul_neg,Int.neg_mul_neg];exact h2))⟩)
  ·have := lin_z1 (a := -a) (b := -b) (c := c) (by omega) (by omega) (by rw [Int.neg_mul_neg, Int.neg_mul_neg]; exact h2)
   refine .inr (.inl ⟨by decide,nn_eq this.2 fun k=>?_,nn_eq this.1 (lin_neg _ _ c)⟩)
   show -(lin (-a) (-b) c).f k=_
   rw[lin_neg]
   show - -(lin a b c).f k=_
   grind
  ·exact .inl ⟨by decide,lin_ps2 ha hb h2⟩
def cmpR(A s n d t m e:Int):Int :=
 if sideZ (A*d) s (n*d)≠t then max (min (sideZ (A*d) s (n*d)-t) 1) (-1) else sideZ (A*d) s (n*d)*sideZ (A*A*d*e+n*e-m*d) (2*A*s*e) (n*d)
def dif(A s d t e:Int)(nd me:Nat):Re:=((Re.int e).mul (lin (A*d) s nd)).add ((Re.int (d*t)).mul (Re.rt me)).neg
theorem dif_f(A s d t e:Int)(nd me k:Nat):(dif A s d t e nd me).f k=(e:Rat)*((A:Rat)*(d:Rat)+(s:Rat)*rtf nd k) + -((d:Rat)*(t:Rat)*rtf me k):=by
 show (e:Rat)*(((A*d:Int):Rat)+(s:Rat)*rtf nd k) + -(((d*t:Int):Rat)*rtf me k)=_
 rw[Rat.intCast_mul,Rat.intCast_mul]
theorem eps{s:Int}{c:Nat}(hs:s=1\/s = -1\/(s=0/\c=0)):∃x:Re,(∀k,x.f k=(s:Rat)*(s:Rat)*(rtf c k*rtf c k)-(c:Rat))/\nn x/\nn x.neg:=by
 refine⟨((Re.int (s*s)).mul ((Re.rt c).mul (Re.rt c))).add (Re.int (c:Int)).neg,fun k=>?_,?_,?_⟩
 ·show ((s * s : Int) : Rat) * (rtf c k * rtf c k) + -((c : Int) : Rat) = _
  rw[Rat.intCast_mul,Rat.intCast_natCast]
  grind
 ·rcases hs with rfl | rfl | ⟨rfl, rfl⟩
  ·refine nn_eq (rt_dn c) fun k => ?_
   show rtf c k*rtf c k + -((c:Int):Rat)=((1*1:Int):Rat)*(rtf c k*rtf c k) + -((c:Int):Rat)
   have:((1*1:Int):Rat)=1:=rfl
   rw[this];grind
  ·refine nn_eq (rt_dn c) fun k => ?_
   show rtf c k*rtf c k + -((c:Int):Rat)=((-1 * -1:Int):Rat)*(rtf c k*rtf c k) + -((c:Int):Rat)
   have:((-1 * -1:Int):Rat)=1:=rfl
   rw[this];grind
  ·refine nn_of fun k => ?_
   show 0<=((0*0:Int):Rat)*(rtf 0 k*rtf 0 k) + -(((0:Nat):Int):Rat)
   have:((0*0:Int):Rat)=0:=rfl
   have h2:(((0:Nat):Int):Rat)=0:=rfl
   rw[this,h2];grind
 ·rcases hs with rfl | rfl | ⟨rfl, rfl⟩
  ·refine nn_eq (rt_up c) fun k => ?_
   show ((c:Int):Rat) + -(rtf c k*rtf c k) = -(((1*1:Int):Rat)*(rtf c k*rtf c k) + -((c:Int):Rat))
   have:((1*1:Int):Rat)=1:=rfl
   rw[this];grind
  ·refine nn_eq (rt_up c) fun k => ?_
   show ((c:Int):Rat) + -(rtf c k*rtf c k) = -(((-1 * -1:Int):Rat)*(rtf c k*rtf c k) + -((c:Int):Rat))
   have:((-1 * -1:Int):Rat)=1:=rfl
   rw[this];grind
  ·refine nn_of fun k => ?_
   show 0 <= -(((0*0:Int):Rat)*(rtf 0 k*rtf 0 k) + -(((0:Nat):Int):Rat))
   have:((0*0:Int):Rat)=0:=rfl
   have h2:(((0:Nat):Int):Rat)=0:=rfl
   rw[this,h2];grind
theorem neg2{x:Re}(k:Nat):x.neg.neg.f k=x.f k:=by show - -x.f k=x.f k;grind
theorem cmp_sq{x y g a b:Re}{m p q t:Int}(hm:0<m)(hp:0<=p)(hq:0<=q)(hx:nn x)(hy:nn y)(hg:Sg t g)(ha:nn a/\nn a.neg)(hb:nn b/\nn b.neg)
  (e:∀k,x.f k*x.f k-y.f k*y.f k=(m:Rat)*g.f k+(p:Rat)*a.f k-(q:Rat)*b.f k):Sg t (x.add y.neg):=by
 have na:∀ {z:Re} {p:Int},0<=p->nn z->nn ((Re.int p).mul z):=fun h g=>nn_mul (int_nn h) g
 have k1:∀k,(((Re.int m).mul g).add (((Re.int p).mul a).add ((Re.int q).mul b.neg))).f k=((x.mul x).add (y.mul y).neg).f k:=fun k=>by
  have:=e k
  show (m:Rat)*g.f k+((p:Rat)*a.f k+(q:Rat) * -b.f k)=x.f k*x.f k + -(y.f k*y.f k)
  grind
 have k2:∀k,(((Re.int m).mul g.neg).add (((Re.int p).mul a.neg).add ((Re.int q).mul b))).f k=((y.mul y).add (x.mul x).neg).f k:=fun k=>by
  have:=e k
  show (m:Rat) * -g.f k+((p:Rat) * -a.f k+(q:Rat)*b.f k)=y.f k*y.f k + -(x.f k*x.f k)
  grind
 have sw:∀k,(y.add x.neg).f k=(x.add y.neg).neg.f k:=fun k=>by
  show y.f k + -x.f k = -(x.f k + -y.f k)
  grind
 have r1:=nn_add (na hp ha.1) (na hq hb.2)
 have r2:=nn_add (na hp ha.2) (na hq hb.1)
 rcases hg with⟨rfl,h⟩|⟨rfl,h,h'⟩|⟨rfl,h⟩
 ·exact .inl ⟨rfl,sq_ps hx hy (ps_eq (ps_add (ps_mul (int_ps hm) h) r1) k1)⟩
 ·refine .inr (.inl ⟨rfl, sq_nn' hx hy (nn_eq (nn_add (na (Int.le_of_lt hm) h) r1) k1), ?_⟩)
  exact nn_eq (sq_nn' hy hx (nn_eq (nn_add (na (Int.le_of_lt hm) h') r2) k2)) sw
 ·exact .inr (.inr ⟨rfl,ps_eq (sq_ps hy hx (ps_eq (ps_add (ps_mul (int_ps hm) h) r2) k2)) sw⟩)
theorem Sg.eq{s:Int}{x y:Re}(h:Sg s x)(e:∀k,x.f k=y.f k):Sg s y:=by
 have e':∀k,x.neg.f k=y.neg.f k:=fun k=>by show -x.f k = -y.f k;rw[e]
 rcases h with⟨h,g⟩|⟨h,g,g'⟩|⟨h,g⟩
 ·exact .inl ⟨h,ps_eq g e⟩
 ·exact .inr (.inl ⟨h,nn_eq g e,nn_eq g' e'⟩)
 ·exact .inr (.inr ⟨h,ps_eq g e'⟩)
theorem Sg.neg{s:Int}{x:Re}(h:Sg s x):Sg (-s) x.neg:=by
 rcases h with⟨rfl,g⟩|⟨rfl,g,g'⟩|⟨rfl,g⟩
 ·exact .inr (.inr ⟨rfl,ps_eq g fun k=>(neg2 k).symm⟩)
 ·exact .inr (.inl ⟨rfl,g',nn_eq g fun k=>(neg2 k).symm⟩)
 ·exact .inl ⟨rfl,g⟩
theorem Sg.uniq{s t:Int}{x:Re}(h:Sg s x)(g:Sg t x):s=t:=by
 rcases h with⟨rfl,h⟩|⟨rfl,h,h'⟩|⟨rfl,h⟩<;>rcases g with⟨rfl,g⟩|⟨rfl,g,g'⟩|⟨rfl,g⟩
 ·rfl
 ·exact absurd g' (ps_not h)
 ·exact absurd (ps_nn h) (ps_not2 g)
 ·exact absurd h' (ps_not g)
 ·rfl
 ·exact absurd h (ps_not2 g)
 ·exact absurd (ps_nn g) (ps_not2 h)
 ·exact absurd g (ps_not2 h)
 ·rfl
theorem Sg.mul{s m:Int}{x:Re}(h:Sg s x)(hm:0<m):Sg s ((Re.int m).mul x):=by
 have e:∀k,((Re.int m).mul x.neg).f k=((Re.int m).mul x).neg.f k:=fun k=>by show (m:Rat) * -x.f k = -((m:Rat)*x.f k);grind
 rcases h with⟨rfl,g⟩|⟨rfl,g,g'⟩|⟨rfl,g⟩
 ·exact .inl ⟨rfl,ps_mul (int_ps hm) g⟩
 ·exact .inr (.inl ⟨rfl,nn_mul (int_nn (Int.le_of_lt hm)) g,nn_eq (nn_mul (int_nn (Int.le_of_lt hm)) g') e⟩)
 ·exact .inr (.inr ⟨rfl,ps_eq (ps_mul (int_ps hm) g) e⟩)
theorem Sg.plus{s t r:Int}{x y:Re}(h:Sg s x)(g:Sg t y)(e:(s=1/\0<=t/\r=1)\/(0<=s/\t=1/\r=1)\/(s=0/\t=0/\r=0)\/(s = -1/\t<=0/\r = -1)\/(s<=0/\t = -1/\r = -1)):Sg r (x.add y):=by
 have c1:∀k,(y.add x).f k=(x.add y).f k:=fun k=>by show y.f k+x.f k=x.f k+y.f k;grind
 have c2:∀k,(x.neg.add y.neg).f k=(x.add y).neg.f k:=fun k=>by show -x.f k + -y.f k = -(x.f k+y.f k);grind
 have c3:∀k,(y.neg.add x.neg).f k=(x.add y).neg.f k:=fun k=>by show -y.f k + -x.f k = -(x.f k+y.f k);grind
 rcases h with⟨rfl,h⟩|⟨rfl,h,h'⟩|⟨rfl,h⟩<;>rcases g with⟨rfl,g⟩|⟨rfl,g,g'⟩|⟨rfl,g⟩
 ·obtain rfl : r = 1 := by omega
  exact .inl ⟨rfl,ps_add h (ps_nn g)⟩
 ·obtain rfl : r = 1 := by omega
  exact .inl ⟨rfl,ps_add h g⟩
 ·omega
 ·obtain rfl : r = 1 := by omega
  exact .inl ⟨rfl,ps_eq (ps_add g h) c1⟩
 ·obtain rfl : r = 0 := by omega
  exact .inr (.inl ⟨rfl,nn_add h g,nn_eq (nn_add h' g') c2⟩)
 ·obtain rfl : r = -1 := by omega
  exact .inr (.inr ⟨rfl,ps_eq (ps_add g h') c3⟩)
 ·omega
 ·obtain rfl : r = -1 := by omega
  exact .inr (.inr ⟨rfl,ps_eq (ps_add h g') c2⟩)
 ·obtain rfl : r = -1 := by omega
  exact .inr (.inr ⟨rfl,ps_eq (ps_add h (ps_nn g)) c2⟩)
theorem sg_bd{s:Int}{x:Re}(h:Sg s x):s=1\/s=0\/s = -1:=by
 rcases h with⟨h,_⟩|⟨h,_⟩|⟨h,_⟩<;>omega
theorem sg_root{t:Int}{c:Nat}(ht:(t=1/\0<c)\/(t = -1/\0<c)\/(t=0/\c=0)):Sg t ((Re.int t).mul (Re.rt c)):=by
 rcases ht with⟨rfl,h⟩|⟨rfl,h⟩|⟨rfl,rfl⟩
 ·exact .inl ⟨rfl,ps_mul (int_ps (by decide)) (rt_ps h)⟩
 ·refine .inr (.inr ⟨rfl, ps_eq (rt_ps h) fun k => ?_⟩)
  show rtf c k = -(((-1:Int):Rat)*rtf c k)
  have:((-1:Int):Rat) = -1:=rfl
  rw[this];grind
 ·refine .inr (.inl ⟨rfl, nn_of fun k => ?_, nn_of fun k => ?_⟩)
  ·show 0 <= ((0 : Int) : Rat) * rtf 0 k
   rw[rtf_zero,Rat.mul_zero];exact Rat.le_refl
  ·show 0 <= -(((0 : Int) : Rat) * rtf 0 k)
   rw[rtf_zero,Rat.mul_zero];decide
theorem cmp_sg{A s t:Int}{n d m e:Nat}(hd:0<d)(he:0<e)(hs:(s=1/\0<n)\/(s = -1/\0<n)\/(s=0/\n=0))(ht:(t=1/\0<m)\/(t = -1/\0<m)\/(t=0/\m=0)) :
  Sg (cmpR A s n d t m e) (dif A s d t e (n*d) (m*e)):=by
 have hu:=side_sg (A*d) s (n*d)
 have hw:=side_sg (A*A*d*e+n*e-m*d) (2*A*s*e) (n*d)
 rw[Int.natCast_mul] at hu hw
 have hr:(t=1/\0<m*e)\/(t = -1/\0<m*e)\/(t=0/\m*e=0):=by
  rcases ht with⟨h1,h2⟩|⟨h1,h2⟩|⟨h1,h2⟩
  ·exact .inl ⟨h1,Nat.mul_pos h2 he⟩
  ·exact .inr (.inl ⟨h1,Nat.mul_pos h2 he⟩)
  ·exact .inr (.inr ⟨h1,by rw[h2,Nat.zero_mul]⟩)
 have hv:=sg_root hr
 have hes:s=1\/s = -1\/(s=0/\n*d=0):=by
  rcases hs with⟨h1,_⟩|⟨h1,_⟩|⟨h1,h2⟩
  ·exact .inl h1
  ·exact .inr (.inl h1)
  ·exact .inr (.inr ⟨h1,by rw[h2,Nat.zero_mul]⟩)
 have het:t=1\/t = -1\/(t=0/\m*e=0):=by omega
 obtain⟨ea,Ea,ha⟩:=eps hes
 obtain⟨eb,Eb,hb⟩:=eps het
 have hd':(0:Int)<(d:Int):=by omega
 have he':(0:Int)<(e:Int):=by omega
 have hX:=hu.mul he'
 have hY:=hv.mul hd'
 have eX:∀k,((Re.int e).mul (lin (A*d) s (n*d))).f k=(e:Rat)*((A:Rat)*(d:Rat)+(s:Rat)*rtf (n*d) k):=fun k=>by
  show ((e:Int):Rat)*(((A*d:Int):Rat)+(s:Rat)*rtf (n*d) k)=_
  rw[Rat.intCast_mul,Rat.intCast_natCast,Rat.intCast_natCast]
 have eY:∀k,((Re.int d).mul ((Re.int t).mul (Re.rt (m*e)))).f k=(d:Rat)*((t:Rat)*rtf (m*e) k):=fun k=>by
  show ((d:Int):Rat)*((t:Rat)*rtf (m*e) k)=_
  rw[Rat.intCast_natCast]
 have eD:∀k,(((Re.int e).mul (lin (A*d) s (n*d))).add ((Re.int d).mul ((Re.int t).mul (Re.rt (m*e)))).neg).f k=(dif A s d t e (n*d) (m*e)).f k:=fun k=>by
  rw[dif_f]
  show ((Re.int e).mul (lin (A*d) s (n*d))).f k + -((Re.int d).mul ((Re.int t).mul (Re.rt (m*e)))).f k=_
  rw[eX,eY,Rat.intCast_natCast,Rat.intCast_natCast]
  grind
 have eG:∀k,(lin (A*A*d*e+n*e-m*d) (2*A*s*e) (n*d)).f k=(A:Rat)*(A:Rat)*(d:Rat)*(e:Rat)+(n:Rat)*(e:Rat)-(m:Rat)*(d:Rat)+2*(A:Rat)*(s:Rat)*(e:Rat)*rtf (n*d) k:=fun k=>by
  rw[lin_f]
  have h2:((2:Int):Rat)=2:=rfl
  simp only[Rat.intCast_add,Rat.intCast_sub,Rat.intCast_mul,Rat.intCast_natCast,h2]
 refine Sg.eq ?_ eD
 unfold cmpR
 generalize sideZ (A*d) s (n*d)=u at *
 generalize sideZ (A*A*d*e+n*e-m*d) (2*A*s*e) (n*d)=w at *
 have bu:=sg_bd hu
 have bv:=sg_bd hv
 have bw:=sg_bd hw
 by_cases hne:u≠t
 ·rw [if_pos hne]
  refine Sg.plus hX hY.neg ?_
  omega
 ·rw [if_neg hne]
  obtain rfl:u=t:=by omega
  rcases bu with h1|h1|h1
  ·subst h1
   rw[Int.one_mul]
   refine cmp_sq (m:=d*e) (p:=e*e) (q:=d*d) (g:=lin (A*A*d*e+n*e-m*d) (2*A*s*e) (n*d)) (a:=ea) (b:=eb) (Int.mul_pos hd' he') (Int.mul_nonneg (by omega) (by omega)) (Int.mul_nonneg (by omega) (by omega)) ?_ ?_ hw ha hb ?_
   ·rcases hX with ⟨_, h⟩ | ⟨h, _⟩ | ⟨h, _⟩
    ·exact ps_nn h
    ·omega
    ·omega
   ·rcases hY with ⟨_, h⟩ | ⟨h, _⟩ | ⟨h, _⟩
    ·exact ps_nn h
    ·omega
    ·omega
   ·intro k
    rw[eX,eY,eG,Ea,Eb]
    have h1:((1:Int):Rat)=1:=rfl
    simp only[Rat.intCast_mul,Rat.intCast_natCast,Rat.natCast_mul,h1]
    grind
  ·subst h1
   rw[Int.zero_mul]
   refine Sg.plus hX hY.neg ?_
   omega
  ·subst h1
   have hw':Sg w (lin (A*A*d*e+n*e-m*d) (2*A*s*e) (n*d)):=hw
   have key:=cmp_sq (x:=((Re.int e).mul (lin (A*d) s (n*d))).neg) (y:=((Re.int d).mul ((Re.int (-1)).mul (Re.rt (m*e)))).neg) (m:=d*e) (p:=e*e) (q:=d*d) (g:=lin (A*A*d*e+n*e-m*d) (2*A*s*e) (n*d)) (a:=ea) (b:=eb) (Int.mul_pos hd' he') (Int.mul_nonneg (by omega) (by omega)) (Int.mul_nonneg (by omega) (by omega)) ?_ ?_ hw ha hb ?_
   ·have e1 : -1 * w = -w := by omega
    rw[e1]
    refine Sg.eq key.neg fun k=>?_
    show -(-((Re.int e).mul (lin (A*d) s (n*d))).f k + - -((Re.int d).mul ((Re.int (-1)).mul (Re.rt (m*e)))).f k)=((Re.int e).mul (lin (A*d) s (n*d))).f k + -((Re.int d).mul ((Re.int (-1)).mul (Re.rt (m*e)))).f k
    grind
   ·rcases hX with ⟨h, _⟩ | ⟨h, _⟩ | ⟨_, h⟩
    ·omega
    ·omega
    ·exact ps_nn h
   ·rcases hY with ⟨h, _⟩ | ⟨h, _⟩ | ⟨_, h⟩
    ·omega
    ·omega
    ·exact ps_nn h
   ·intro k
    show -((Re.int e).mul (lin (A*d) s (n*d))).f k * -((Re.int e).mul (lin (A*d) s (n*d))).f k - -((Re.int d).mul ((Re.int (-1)).mul (Re.rt (m*e)))).f k * -((Re.int d).mul ((Re.int (-1)).mul (Re.rt (m*e)))).f k=_
    rw[eX,eY,eG,Ea,Eb]
    have h1:((-1:Int):Rat) = -1:=rfl
    simp only[Rat.intCast_mul,Rat.intCast_natCast,Rat.natCast_mul,h1]
    grind

set_option maxRecDepth 100000
section
def rtV(r:Rt):V1:=⟨true,[.i r.add lim,.i r.s lim,.d (.num r.n),.d (.num r.d)]⟩
abbrev rtA(r:Rt×Bool):AV:=.tup [rtV r.1,blV r.2]
theorem ofP_bad{add s:Int}{n d:Nm}(h:ofBad s n d=true):ofP add s n d=(Rt.no,false):=by unfold ofP;rw[h];rfl
theorem ofP_zero{add s:Int}{n d:Nm}(h:ofBad s n d=false)(h0:s=0\/n.z=0):ofP add s n d=(⟨add,0,zero,ofZ 1⟩,true):=by unfold ofP;rw[h,if_neg (by decide),if_pos h0]
theorem sgn_le{z:Int}(b:Bool)(h:decide (z<=0)=b):decide (sgn z<=0)=b:=by
 rw[<- h,decide_eq_decide]
 rcases sgn_cases z with⟨h,g⟩|⟨h,g⟩|⟨h,g⟩<;>omega
theorem sgn_z{z:Int}(b:Bool)(h:(z==0)=b):(sgn z==0)=b:=by
 rw[<- h,Bool.eq_iff_iff,beq_iff_eq,beq_iff_eq]
 rcases sgn_cases z with⟨h,g⟩|⟨h,g⟩|⟨h,g⟩<;>omega
theorem nt_F{b:Bool}(h:b=true):(!b)=false:=by rw[h];rfl
theorem nt_T{b:Bool}(h:b=false):(!b)=true:=by rw[h];rfl
theorem bad_iff{s:Int}{n d:Nm}:ofBad s n d=(decide (s < -1)||(decide (s>1)||(!n.right||(!d.right||(n.neg||decide (d.z<=0)))))):=by
 unfold ofBad
 simp only[Bool.or_assoc,gt_iff_lt]
theorem max_len{x y:List Nat}{b:Bool}(h:decide (8<max x.length y.length)=b):decide (max (x.length:Int) (y.length:Int)>8)=b:=by
 rw[<- h,decide_eq_decide]
 omega
theorem rtOf_fok(add s:Int)(n d:Nm)(dd:Dig d.d):Fok Tryz.prog 42 [inV add lim,inV s lim,nmV n,nmV d] (rtA (ofP add s n d)):=by
 cases h1:decide (s < -1) with
 | true =>
  rw[ofP_bad (by rw[bad_iff,h1];rfl)]
  exact fok KNm [true] [pT h1] (by kernel_rfl)
 | false =>
 cases h2:decide (s>1) with
 | true =>
  rw[ofP_bad (by rw[bad_iff,h1,h2];rfl)]
  exact fok KNm [false,true] [pF h1,pT h2] (by kernel_rfl)
 | false =>
 cases h3:n.right with
 | false =>
  rw[ofP_bad (by rw[bad_iff,h1,h2,h3];rfl)]
  exact fok KNm [false,false,true] [pF h1,pF h2,pT (nt_T h3)] (by kernel_rfl)
 | true =>
 cases h4:d.right with
 | false =>
  rw[ofP_bad (by rw[bad_iff,h1,h2,h3,h4];rfl)]
  exact fok KNm [false,false,false,true] [pF h1,pF h2,pF (nt_F h3),pT (nt_T h4)] (by kernel_rfl)
 | true =>
 cases h5:n.neg with
 | true =>
  rw[ofP_bad (by rw[bad_iff,h1,h2,h3,h4,h5];rfl)]
  exact fok KNm [false,false,false,false,true] [pF h1,pF h2,pF (nt_F h3),pF (nt_F h4),pT h5] (by kernel_rfl)
 | false =>
 cases h6:decide (d.z<=0) with
 | true =>
  rw[ofP_bad (by rw[bad_iff,h1,h2,h3,h4,h5,h6];rfl)]
  exact fok KNm [false,false,false,false,false,true] [pF h1,pF h2,pF (nt_F h3),pF (nt_F h4),pF h5,pP h4,pT (sgn_le _ h6)] (by kernel_rfl)
 | false =>
 have hb:ofBad s n d=false:=by rw[bad_iff,h1,h2,h3,h4,h5,h6];rfl
 cases h7:(s==0) with
 | true =>
  rw[ofP_zero hb (.inl (by simpa using h7))]
  exact fok KNm [false,false,false,false,false,false,true] [pF h1,pF h2,pF (nt_F h3),pF (nt_F h4),pF h5,pP h4,pF (sgn_le _ h6),pT h7] (by kernel_rfl)
 | false =>
 cases h8:(n.z==0) with
 | true =>
  rw[ofP_zero hb (.inr (by simpa using h8))]
  exact fok KNm [false,false,false,false,false,false,false,true] [pF h1,pF h2,pF (nt_F h3),pF (nt_F h4),pF h5,pP h4,pF (sgn_le _ h6),pF h7,pP h3,pT (sgn_z _ h8)] (by kernel_rfl)
 | false =>
 rw[ofP_div dd hb (fun h=>h.elim (fun h=>by rw[h] at h7;cases h7) (fun h=>by rw[h] at h8;cases h8))]
 cases h9:decide (8<max (divP n (gcdP n d).1).1.d.length (divP d (gcdP n d).1).1.d.length) with
 | true =>
  rw[if_pos (of_decide_eq_true h9)]
  exact fok KNm [false,false,false,false,false,false,false,false,true] [pF h1,pF h2,pF (nt_F h3),pF (nt_F h4),pF h5,pP h4,pF (sgn_le _ h6),pF h7,pP h3,pF (sgn_z _ h8),pP h4,pT (max_len h9)] (by kernel_rfl)
 | false =>
  rw[if_neg (of_decide_eq_false h9)]
  exact fok KNm [false,false,false,false,false,false,false,false,false] [pF h1,pF h2,pF (nt_F h3),pF (nt_F h4),pF h5,pP h4,pF (sgn_le _ h6),pF h7,pP h3,pF (sgn_z _ h8),pP h4,pF (max_len h9)] (by kernel_rfl)
theorem rt_at{V W:World}{r:Nat->Nat}{k:Nat}{a s:Int}{A S:Nat}{n d:Nm}{v:Value}:RepV V W r k ⟨true,[.i a A,.i s S,.d (.num n),.d (.num d)]⟩ v->RepV V W r k (rtV ⟨a,s,n,d⟩) v/\Dig n.d/\Dig d.d/\I64 a:=by
 intro hv
 simp only[rv_t,rl_i,rl_num,rl_nil] at hv
 obtain⟨_,⟨⟨_,i1⟩,_,rfl,⟨_,i2⟩,_,rfl,n1,p1,l1,c1,h1,_,rfl,m1,q1,k1,d1,h2,_,rfl,rfl⟩,rfl⟩:=hv
 exact⟨rv_t.2 ⟨_,rl_i.2 ⟨lim64 i1,_,rfl,rl_i.2 ⟨lim64 i2,_,rfl,rl_num.2 ⟨n1,p1,l1,c1,h1,_,rfl,rl_num.2 ⟨m1,q1,k1,d1,h2,_,rfl,rfl⟩⟩⟩⟩,rfl⟩,h1.2.2.dig,h2.2.2.dig,i1⟩
theorem nm_dig{V W:World}{r:Nat->Nat}{k:Nat}{d:Nm}{v:Value}(hv:RepV V W r k ⟨true,[.d (.num d)]⟩ v):Dig d.d:=by
 obtain⟨_,hw,_⟩:=rv_t.1 hv
 obtain⟨m1,q1,k1,d1,h2,_⟩:=rl_num.1 hw
 exact h2.2.2.dig
theorem in_lim{V W:World}{r:Nat->Nat}{k:Nat}{z:Int}{A:Nat}:∀v,RepV V W r k ⟨false,[.i z A]⟩ v->RepV V W r k (inV z lim) v:=fun v hv=>by
 obtain⟨h1,rfl⟩:=rv_i.1 hv
 exact rv_i.2 ⟨lim64 h1.2,rfl⟩
def ofC(f:FuncId)(H:∀(add s:Int) (n d:Nm),Dig d.d->Fok Tryz.prog f [inV add lim,inV s lim,nmV n,nmV d] (rtA (ofP add s n d))):Con where
 f:=f
 g:=fun | [⟨false,[.i a _]⟩,⟨false,[.i s _]⟩,⟨true,[.d (.num n)]⟩,⟨true,[.d (.num d)]⟩]=>some (rtA (ofP a s n d),[])|_=>none
 ok:=by
  intro args res ps h hp
  split at h<;>cases h
  rename_i a _ s _ n d
  intro W vals hv
  have dd:Dig d.d:=by
   obtain⟨_,_,_,_,h1⟩:=rvs_cons.1 hv
   obtain⟨_,_,_,_,h2⟩:=rvs_cons.1 h1
   obtain⟨_,_,_,_,h3⟩:=rvs_cons.1 h2
   obtain⟨_,h4,_⟩:=rvs_cons.1 h3
   exact nm_dig h4
  exact H a s n d dd W vals (rvs_1 in_lim (rvs_1 in_lim fun _ h=>h) _ hv)
def cRtOf:Con:=ofC 42 rtOf_fok
def KRr:List Con:=[cRtOf,cNCmp]
theorem rtRight_fok(a:Rt):Fok Tryz.prog 45 [rtV a] (.one (blV a.right)):=by
 unfold Rt.right
 cases h1:(ofP a.add a.s a.n a.d).2 with
 | false=>exact fok KRr [false] [pF h1] (by kernel_rfl)
 | true =>
 cases h2:((ofP a.add a.s a.n a.d).1.s==a.s) with
 | false=>exact fok KRr [true,false] [pT h1,pF h2] (by kernel_rfl)
 | true =>
 cases h3:(cmpP a.n (ofP a.add a.s a.n a.d).1.n==0) with
 | false=>exact fok KRr [true,true,false] [pT h1,pT h2,pF h3] (by kernel_rfl)
 | true=>exact fok KRr [true,true,true] [pT h1,pT h2,pT h3] (by kernel_rfl)
def rightC(f:FuncId)(H:∀a:Rt,Dig a.n.d/\Dig a.d.d->Fok Tryz.prog f [rtV a] (.one (blV a.right))):Con where
 f:=f
 g:=fun | [⟨true,[.i a _,.i s _,.d (.num n),.d (.num d)]⟩]=>some (.one (blV (Rt.right ⟨a,s,n,d⟩)),[])|_=>none
 ok:=by
  intro args res ps h hp
  split at h<;>cases h
  rename_i a _ s _ n d
  intro W vals hv
  obtain⟨_,hx,_,rfl,hw⟩:=rvs_cons.1 hv
  cases hw
  obtain⟨k1,k2,k3,_⟩:=rt_at hx
  exact H ⟨a,s,n,d⟩ ⟨k2,k3⟩ W _ (rvs_cons.2 ⟨_,k1,_,rfl,rfl⟩)
def cRight:Con:=rightC 45 fun a _=>rtRight_fok a
end

set_option maxHeartbeats 8000000
set_option maxRecDepth 100000
section
theorem td32(k:Nat):((k:Nat):Int).tdiv 32=((k/32:Nat):Int):=tdiv_nat k 32
theorem tm32(k:Nat):((k:Nat):Int).tmod 32=((k%32:Nat):Int):=tmod_nat k 32
attribute [local go_sem] td32 tm32
end

set_option maxHeartbeats 4000000
set_option maxRecDepth 100000
section
theorem tmod2(d:Nat):Int.tmod (d:Int) 2=(d:Int)%2:=rfl
attribute [local go_sem] tmod2
end
def IsN(w0 W:World)(x:Nm)(v:Value)(w':World):Prop:=∃n p l c,v=.agg #[.bool n,.slice p l c]/\NR w' n p l c x/\New w0 p/\Ext W w'
theorem RetN.isN{w0 W:World}{x:Nm}{e:Ending}{w':World}(hz:w0.heap.size<=W.heap.size)(h:RetN W x e w'):∃v,e=.returned v/\IsN w0 W x v w':=by
 obtain⟨n,p,l,c,rfl,h1,h2,h3⟩:=h
 exact⟨_,rfl,n,p,l,c,rfl,h1,h2.mono hz,h3⟩
theorem F_num{P:Program}{ops:Array Oper}{S:World->Prop}{Q:Act->World->Prop}{o:Oper}{l:List Oper}{a:Act}{own:List Nat}{F:World->Prop}(w0:World)(x:Nm)(hk:fkind o=2)(hw:Region.wanted o (yielded ops a.tmps)=true)
  (hg:∀w,F w->Gives P o a w (IsN w0 w x))
  (h:∀n p l' c,New w0 p->WpF P ops S Q l (a.put o.dst (.agg #[.bool n,.slice p l' c])) own (fun w=>F w/\NR w n p l' c x)):WpF P ops S Q (o::l) a own F :=
 F_callN w0 x hk hw hg h

set_option maxHeartbeats 2000000
set_option maxRecDepth 100000
section
attribute [local go_sem] Gives givesU
theorem subP_small{x y:Int}(hx:small x=true)(hy:small y=true)(hs:small (x-y)=true):subP (ofZ x) (ofZ y)=(ofZ (x-y),true):=by
 unfold subP fit
 rw[ofZ_right hx,ofZ_right hy,ofZ_z,ofZ_z,hs]
 rfl
theorem mulP_small'{x y:Int}(hx:small x=true)(hy:small y=true)(hs:small (x*y)=true):mulP (ofZ x) (ofZ y)=(ofZ (x*y),true) :=
 mulP_small (ofZ_right hx) (ofZ_right hy) (by rw[ofZ_z,ofZ_z]) hs
theorem meet_of(n:Int)(w:World)(h : -9223372036854775808<=n/\n<=9223372036854775807) :
  Calls Tryz.prog 193 #[.int .i64 n] w (RetN w (ofZ n)):=by
 go_enter Tryz.func193,Tryz.ntmps193
 go_wp2_with fail
 refine (num_Of n _ h.1 h.2).mono ?_
 rintro e w1 ⟨n1,p1,l1,c1,rfl,hnr,hnew,hx⟩
 have hx0:Ext w w1:=Ext.step bxx hx
 obtain⟨_,_,_,_⟩:=keepK1 hx w.heap.size
 go_wp2_with fail
 refine bodyPost_ret (v:=.agg #[.bool n1,.slice p1 l1 c1]) (by simp[results,Tryz.results193,go_sem, *]) rfl ?_
 exact⟨n1,p1,l1,c1,rfl,(by repeat (first|assumption|refine NR.set ?_ (by assumption) _ (by first|(simp;done)|(simp;omega)|omega) _|refine NR.alloc ?_ _)),hnew.mono (by simp),bxx⟩
theorem meet_mul(x y:Int)(na nb:Bool)(pa pb:Option Addr)(la ca lb cb:Nat)(w:World)(ha:NR w na pa la ca (ofZ x))(hb:NR w nb pb lb cb (ofZ y))(hx:small x=true)(hy:small y=true)(z:Int)(hz:x*y=z)(hs:small z=true) :
  Calls Tryz.prog 195 #[.agg #[.bool na,.slice pa la ca],.agg #[.bool nb,.slice pb lb cb]] w (RetN w (ofZ z)):=by
 subst hz
 have MP:=Lib.hid (mulP_small' hx hy hs)
 clear hx hy hs
 go_enter Tryz.func195,Tryz.ntmps195
 go_wp2_with fail
 refine (num_Mul (ofZ x) (ofZ y) _ _ _ _ _ _ _ _ _ (ha.ext bxx) (hb.ext bxx)).mono ?_
 rintro e w1 ⟨n1,p1,l1,c1,rfl,hnr,hnew,hx⟩
 rw[MP.out] at hnr ⊢
 have hx0:Ext w w1:=Ext.step bxx hx
 obtain⟨_,⟨_,_,_⟩,⟨_,_,_⟩,_,_,_⟩:=keepK3 hx w.heap.size
 go_wp2_with fail
 refine bodyPost_ret (v:=.agg #[.bool n1,.slice p1 l1 c1]) (by simp[results,Tryz.results195,go_sem, *]) rfl ?_
 exact⟨n1,p1,l1,c1,rfl,(by repeat (first|assumption|refine NR.set ?_ (by assumption) _ (by first|(simp;done)|(simp;omega)|omega) _|refine NR.alloc ?_ _)),hnew.mono (by simp;omega),bxx⟩
end
end Go.Proofs.YteajakbpmeebnaaGreat
