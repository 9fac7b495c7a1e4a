import Derived.Test.YteajakbpmeebnaaGreatH15
import Derived.Laws.BitsAllLaws
import Derived.Deep.DeepCutAuto
set_option linter.unusedVariables false
set_option linter.unusedSimpArgs false

namespace Go.Proofs.YteajakbpmeebnaaGreat
open Go.RowKit

set_option maxHeartbeats 2000000
set_option maxRecDepth 100000
section
theorem num_trim(d:List Nat)(p:Option Addr)(l c:Nat)(w:World)(h:Row w p c d)(hl:l=d.length) :
  Calls Tryz.prog 201 #[.slice p l c] w (RetCut w p c (trim d)):=by
 subst hl
 have hle:=h.le
 have hm:=h.max
 go_enter Tryz.func201,Tryz.ntmps201
 go_wp2
 go_loop [0] (fun n=>∃k:Nat,k<=d.length/\n=.slice p k c/\val (d.take k)=val d) (fun n=>match n with | .slice _ k _=>k|_=>0)
 case atStart=>exact⟨d.length,Nat.le_refl _,rfl,by rw[List.take_of_length_le (Nat.le_refl _)]⟩
 case round =>
  obtain⟨k,hk,rfl,hv⟩:=hrel
  have V:=Lib.hid hv
  clear hv
  cases k with
  | zero =>
   have T:=Lib.hid (trim_eq_take h.dig hk V.out (by omega))
   go_wp2
   go_ret
   rw[T.out]
   exact⟨by simp,h.take 0 (by omega),bxx⟩
  | succ j =>
   obtain⟨b,o,rfl,hb,hc⟩:=h.at (by omega)
   have hc1:=hc j (by omega)
   obtain⟨x,X⟩:∃x,Hid (d[j]?.getD 0=x):=⟨_,rfl⟩
   rw[X.out] at hc1
   by_cases hx:x=0
   ·have hx1 : ((x : Int) == 0) = true := by simp [hx]
    have V2:=Lib.hid (val_take_succ (by omega) (X.out.trans hx))
    clear hx hc
    go_wp2
    exact⟨⟨j,by omega,rfl,V2.out.symm.trans V.out⟩,by simp⟩
   ·have hx1 : ((x : Int) == 0) = false := by rw [beq_eq_false_iff_ne]; omega
    have T:=Lib.hid (trim_eq_take h.dig hk V.out (by rw[Nat.add_sub_cancel,X.out];omega))
    clear hx hc
    go_wp2
    go_ret
    rw[T.out]
    exact⟨by simp;omega,h.take _ (by omega),bxx⟩
theorem or_add(s x:Nat)(hx:x<4294967296):s*4294967296 ||| x=s*4294967296+x:=by
 have:=Nat.two_pow_add_eq_or_of_lt (i:=32) (b:=x) hx s
 rw[show (2:Nat) ^ 32=4294967296 from rfl] at this
 rw[Nat.mul_comm,<- this]
theorem or_u64(s x:Nat)(hs:s<4294967296)(hx:x<4294967296):bits .or .u64 ((s:Int)*4294967296) (x:Int)=((s*4294967296+x:Nat):Int):=by
 have:=u64_or_nat (s*4294967296) x (by omega) (by omega)
 rw[or_add s x hx] at this
 rw[<- this]
 simp
theorem tdiv_nat(a b:Nat):((a:Nat):Int).tdiv (b:Int)=((a/b:Nat):Int):=by rw[Int.tdiv_eq_ediv_of_nonneg (by omega)];rfl
theorem tmod_nat(a b:Nat):((a:Nat):Int).tmod (b:Int)=((a%b:Nat):Int):=by rw[Int.tmod_eq_emod_of_nonneg (by omega)];rfl
theorem enc_put(k:Nat)(o:List Nat)(x:Nat):(enc (List.replicate (k+1) 0++o)).set k (.int .u32 (x:Int))=enc (List.replicate k 0++x::o):=by
 have h:=enc_set (List.replicate k 0) o x
 rw[List.length_replicate] at h
 rw[List.replicate_succ',List.append_assoc,List.singleton_append,h,List.append_assoc,List.singleton_append]
theorem enc_zero(k:Nat)(o:List Nat):(enc (List.replicate (k+1) 0++o))[k]? = some (.int .u32 0):=by
 rw[enc_get _ _ (by simp;omega)]
 rw[List.getElem?_append_left (by simp),List.getElem?_replicate]
 simp
def ShortInv(a:List Nat)(b:Nat)(k:Nat)(o:List Nat)(s:Nat):Prop:=Dig o/\o.length+k=a.length/\s<b/\val (a.drop k)=val o*b+s
theorem short_step{a:List Nat}{b k:Nat}{o:List Nat}{s:Nat}(ha:Dig a)(hb:b<4294967296)(hk:k<a.length)(h:ShortInv a b (k+1) o s) :
  ShortInv a b k ((s*4294967296+a[k]?.getD 0)/b::o) ((s*4294967296+a[k]?.getD 0)%b)/\(s*4294967296+a[k]?.getD 0)/b<4294967296:=by
 obtain⟨h1,h2,h3,h4⟩:=h
 have hx:=ha.getD k
 rw[List.getD_eq_getElem?_getD] at hx
 rw[getD_eq hk] at hx ⊢
 obtain⟨x,X⟩:∃x,a[k]=x:=⟨_,rfl⟩
 rw[X] at hx ⊢
 have hq:(s*4294967296+x)/b<4294967296:=by
  rw[Nat.div_lt_iff_lt_mul (by omega)]
  have:(s+1)*4294967296<=b*4294967296:=Nat.mul_le_mul_right _ h3
  rw[Nat.mul_comm b] at this
  omega
 refine⟨⟨Dig.cons hq h1,by simp;omega,Nat.mod_lt _ (by omega),?_⟩,hq⟩
 rw[List.drop_eq_getElem_cons hk,val_cons,val_cons,h4,X]
 have e:=Nat.div_add_mod (s*4294967296+x) b
 generalize (s*4294967296+x)/b=q at *
 generalize (s*4294967296+x)%b=r at *
 rw[Nat.add_mul,Nat.mul_add,Nat.mul_assoc]
 rw[Nat.mul_comm b q] at e
 omega
def RetShort(w:World)(q:List Nat)(r:Nat)(e:Ending)(w':World):Prop :=
 ∃p c,e=.returned (.tuple #[.slice p q.length c,.int .u32 (r:Int)])/\Row w' p c q/\New w p/\Ext w w'
theorem num_short(a:List Nat)(pa:Option Addr)(la ca b:Nat)(w:World)(ha:Row w pa ca a)(hla:la=a.length)(hb0:0<b)(hb:b<4294967296)(h64:a.length<=1000) :
  Calls Tryz.prog 200 #[.slice pa la ca,.int .u32 (b:Int)] w (RetShort w (digs (val a/b)) (val a%b)):=by
 subst hla
 obtain⟨i,hi,hz0,hz1,hz2⟩:=info_parts info32
 have hla:=ha.le
 have hma:=ha.max
 have hb1:((b:Int)==0)=false:=by rw[beq_eq_false_iff_ne];omega
 go_enter Tryz.func200,Tryz.ntmps200
 go_wp2_with (at_make;refine wpList_make_full _ rfl _ _ 45 rfl w.heap.size 135 i (.int .u32 0) 1 Tryz.underlying45 hi hz0 hz1 _ _ _ _ a.length rfl rfl (by omega) (by omega) (by rw[hz2];omega) (by unfold maxLen;omega) (Nat.le_refl _) ?_)
 all_goals
  intro w1 hown hgr
  rw[show (madeCells #[Value.int IntKind.u32 0] a.length).toList=enc (List.replicate a.length 0++[]) from by rw[enc,List.append_nil,List.map_replicate];exact toList_madeCells_one _ _] at hown
  have hx0:Ext w w1:=⟨hgr.os,hgr.tape,hgr.output,hgr.size,fun k hk=>hgr.block k hk (by simp)⟩
  clear hgr
  go_wp2_with fail
  go_loopw [7,8] (fun rs i wr=>∃(k s:Nat) (o:List Nat),ShortInv a b k o s/\i=.int .i64 ((k:Int)-1)/\rs=.int .u64 (s:Int)/\wr.ownsRow w.heap.size 135 1 (.slice (some ⟨w.heap.size,0,none⟩) a.length a.length) a.length (enc (List.replicate k 0++o))/\Ext w wr) (fun _ i _=>(intOf i+1).toNat)
  case atStart=>exact⟨a.length,0,[],⟨Dig.nil,by simp,hb0,by rw[List.drop_eq_nil_of_le (Nat.le_refl _)];simp[val]⟩,rfl,rfl,hown,hx0⟩
  case round =>
   clear hown hx0
   obtain⟨k,s,o,hinv,rfl,rfl,hown,hx⟩:=hrel
   have INV:=Lib.hid hinv
   have hk:=hinv.2.1
   have hs:=hinv.2.2.1
   clear hinv
   cases k with
   | zero =>
    have e:(((0:Nat):Int)-1) = -1:=by omega
    rw[e]
    clear e
    have hv:val o*b+s=val a:=by
     have:=INV.out.2.2.2
     rw[List.drop_zero] at this
     exact this.symm
    have hq:val o=val a/b:=by
     rw[<- hv,Nat.mul_comm,Nat.mul_add_div hb0,Nat.div_eq_of_lt hs,Nat.add_zero]
    have hr:s=val a%b:=by
     rw[<- hv,Nat.mul_comm,Nat.mul_add_mod,Nat.mod_eq_of_lt hs]
    rw[List.replicate_zero,List.nil_append] at hown
    have hol:o.length=a.length:=by have:=INV.out.2.1;omega
    obtain⟨p,c,hv2,hrow,_⟩:=row_of_owns hown INV.out.1
    injection hv2 with e1 e2 e3
    subst e1
    rw[<- e3] at hrow
    have WS:(s:Int)%4294967296=(s:Int):=Int.emod_eq_of_lt (by omega) (by omega)
    have HOL:=Lib.hid hol.symm
    have HQ:=Lib.hid hq
    have HR:=Lib.hid hr
    clear INV hown e2 e3 hol hv hq hr
    go_wp2_with fail
    refine (num_trim o _ _ _ _ hrow HOL.out).mono ?_
    rintro e w2 ⟨rfl,hr2,hx2⟩
    have hx3:Ext w w2:=Ext.step hx hx2
    go_wp2
    go_ret2
    refine⟨some ⟨w.heap.size,0,none⟩,a.length,?_,?_,by intro x hx;cases hx;exact Nat.le_refl _,hx3⟩
    ·rw [<- HQ.out, HR.out.symm]
     rfl
    ·rw [<- HQ.out]
     exact hr2
   | succ j =>
    have e:(((j+1:Nat):Int)-1)=(j:Int):=by omega
    rw[e]
    clear e
    obtain⟨STEP,hq⟩:=short_step ha.dig hb (by omega) INV.out
    obtain⟨ba,oa,rfl,hba,hca⟩:=ha.at (by omega)
    have ca1:wr.cell? ⟨ba,oa+j,none⟩=some (.int .u32 ((a[j]?.getD 0:Nat):Int)):=(hx.cell (p:=⟨ba,oa+j,none⟩) hba).trans (hca j (by omega))
    have hxd:=ha.dig.getD j
    rw[List.getD_eq_getElem?_getD] at hxd
    obtain⟨x,X⟩:∃x,Hid (a[j]?.getD 0=x):=⟨_,rfl⟩
    rw[X.out] at ca1 STEP hq hxd
    clear hca INV
    have OR:=or_u64 s x (by omega) hxd
    obtain⟨m,M⟩:∃m,Hid (s*4294967296+x=m):=⟨_,rfl⟩
    rw[M.out] at OR STEP hq
    have DV:=tdiv_nat m b
    have MD:=tmod_nat m b
    obtain⟨q,Q⟩:∃q,Hid (m/b=q):=⟨_,rfl⟩
    obtain⟨r,R⟩:∃r,Hid (m%b=r):=⟨_,rfl⟩
    rw[Q.out,R.out] at STEP
    rw[Q.out] at DV hq
    rw[R.out] at MD
    have WQ:(q:Int)%4294967296=(q:Int):=Int.emod_eq_of_lt (by omega) (by omega)
    have hjn:j<a.length:=by omega
    have hcw:wr.cell? ⟨w.heap.size,j,none⟩=some (.int .u32 0):=by
     rw[hown.cellAt j (by omega)]
     exact enc_zero j o
    have hfw:=hown.frozenAt j
    obtain⟨hown3,hg3⟩:=hown.stored j (.int .u32 (q:Int))
    rw[enc_put] at hown3
    have OWN:=Lib.hid hown3
    have hx3:Ext w (wr.setCell ⟨w.heap.size,j,none⟩ (.int .u32 (q:Int))):=Below.setCell hx (Nat.le_refl _) _
    have X3:=Lib.hid hx3
    have SS:=Lib.hid STEP
    clear hown hown3 hg3 hx3 STEP
    go_wp2
    exact⟨⟨j,r,q::o,SS.out,rfl,rfl,OWN.out,X3.out⟩,by simp[intOf]⟩
end
theorem val_set(o:List Nat)(j d q:Nat)(hj:j<o.length)(hq:o[j]?.getD 0=q):val (o.set j d)+4294967296 ^ j*q=val o+4294967296 ^ j*d:=by
 induction o generalizing j with
 | nil=>simp at hj
 | cons x o ih =>
  cases j with
  | zero =>
   simp only[List.getElem?_cons_zero,Option.getD_some] at hq
   subst hq
   simp only[List.set_cons_zero,val_cons,Nat.pow_zero,Nat.one_mul]
   omega
  | succ j =>
   simp only[List.getElem?_cons_succ] at hq
   have h:=ih j (by simpa using hj) hq
   simp only[List.set_cons_succ,val_cons,Nat.pow_succ]
   generalize 4294967296 ^ j=p at *
   have e1:p*4294967296*q=4294967296*(p*q):=by rw[Nat.mul_comm p,Nat.mul_assoc]
   have e2:p*4294967296*d=4294967296*(p*d):=by rw[Nat.mul_comm p,Nat.mul_assoc]
   rw[e1,e2]
   generalize p*q=u at *
   generalize p*d=v at *
   omega
theorem Dig.set{o:List Nat}(h:Dig o)(j d:Nat)(hd:d<4294967296):Dig (o.set j d):=by
 intro x hx
 rcases List.mem_or_eq_of_mem_set hx with hx|rfl
 ·exact h x hx
 ·exact hd
theorem getD_set_ne{o:List Nat}{i j d:Nat}(h:i≠j):(o.set i d)[j]?.getD 0=o[j]?.getD 0:=by rw[List.getElem?_set_ne h]
def Zeros(o:List Nat)(m:Nat):Prop:=∀j,m<=j->o[j]?.getD 0=0
theorem Zeros.replicate(n m:Nat):Zeros (List.replicate n 0) m:=by
 intro j _
 rw[List.getElem?_replicate]
 split<;>rfl
theorem Zeros.set{o:List Nat}{m j d:Nat}(h:Zeros o m)(hj:j<m):Zeros (o.set j d) m:=by
 intro i hi
 rw[getD_set_ne (by omega)]
 exact h i hi
theorem Zeros.mono{o:List Nat}{m n:Nat}(h:Zeros o m)(hm:m<=n):Zeros o n:=fun j hj=>h j (by omega)
theorem val_take_next(d:List Nat)(k x:Nat)(hx:d[k]?.getD 0=x):val (d.take (k+1))=val (d.take k)+4294967296 ^ k*x:=by
 subst hx
 by_cases h:k<d.length
 ·rw [List.take_succ_eq_append_getElem h, val_append]
  have:d[k]?.getD 0=d[k]:=by rw[List.getElem?_eq_getElem h];rfl
  rw[this]
  simp only[List.length_take,Nat.min_eq_left (Nat.le_of_lt h),val_cons,val_nil]
  simp
 ·rw [List.take_of_length_le (by omega), List.take_of_length_le (by omega), List.getElem?_eq_none (by omega)]
  simp
def MulInv(a b o:List Nat)(i k x c:Nat):Prop :=
 Dig o/\c<4294967296/\val o+4294967296 ^ (i+k)*c=val (a.take i)*val b+x*(4294967296 ^ i*val (b.take k))
theorem MulInv.step{a b o:List Nat}{i k x c y q m:Nat}(h:MulInv a b o i k x c)(hj:i+k<o.length)(hx:x<4294967296)(hy:b[k]?.getD 0=y)(hyd:y<4294967296)(hq:o[i+k]?.getD 0=q)(hqd:q<4294967296)(hm:x*y=m) :
  MulInv a b (o.set (i+k) ((c+(q+m))%4294967296)) i (k+1) x ((c+(q+m))/4294967296):=by
 obtain⟨h1,h2,h3⟩:=h
 have hb:m<=4294967295*4294967295:=by rw[<- hm];exact Nat.mul_le_mul (by omega) (by omega)
 refine⟨h1.set _ _ (Nat.mod_lt _ (by decide)),by omega,?_⟩
 have hv:=val_set o (i+k) ((c+(q+m))%4294967296) q hj hq
 have hd:=Nat.mod_add_div (c+(q+m)) 4294967296
 rw[val_take_next b k y hy]
 generalize (c+(q+m))%4294967296=d at *
 generalize (c+(q+m))/4294967296=e at *
 have hp:(4294967296:Nat) ^ (i+(k+1))=4294967296 ^ (i+k)*4294967296:=by rw[<- Nat.add_assoc,Nat.pow_succ]
 have hp2:x*(4294967296 ^ i*(val (b.take k)+4294967296 ^ k*y))=x*(4294967296 ^ i*val (b.take k))+4294967296 ^ (i+k)*m:=by
  rw[Nat.mul_add,Nat.mul_add,<- hm,Nat.pow_add]
  congr 1
  generalize 4294967296 ^ i=u
  generalize 4294967296 ^ k=v
  rw[Nat.mul_left_comm x u,Nat.mul_assoc u v,Nat.mul_left_comm x v]
 rw[hp,hp2]
 generalize val (o.set (i+k) d)=v' at *
 generalize 4294967296 ^ (i+k)=p at *
 generalize x*(4294967296 ^ i*val (b.take k))=r at *
 generalize val (a.take i)*val b=s at *
 have h4:p*d+p*4294967296*e=p*c+(p*q+p*m):=by
  rw[Nat.mul_assoc,<- Nat.mul_add,hd,Nat.mul_add,Nat.mul_add]
 generalize p*4294967296*e=w1 at *
 generalize p*d=w2 at *
 generalize p*c=w3 at *
 generalize p*q=w4 at *
 generalize p*m=w5 at *
 omega
theorem MulInv.start{a b o:List Nat}{i x:Nat}(hd:Dig o)(h:val o=val (a.take i)*val b):MulInv a b o i 0 x 0 :=
 ⟨hd,by decide,by simp[val,h]⟩
theorem MulInv.finish{a b o:List Nat}{i k x c:Nat}(h:MulInv a b o i k x c)(hk:b.length<=k)(hx:a[i]?.getD 0=x)(hz:o[i+k]?.getD 0=0)(hj:i+k<o.length) :
  Dig (o.set (i+k) c)/\val (o.set (i+k) c)=val (a.take (i+1))*val b:=by
 obtain⟨h1,h2,h3⟩:=h
 refine⟨h1.set _ _ h2,?_⟩
 have hv:=val_set o (i+k) c 0 hj hz
 rw[List.take_of_length_le hk] at h3
 rw[val_take_next a i x hx,Nat.add_mul,Nat.mul_comm (4294967296 ^ i) x,Nat.mul_assoc]
 omega
theorem MulInv.done{a b o:List Nat}{i k x:Nat}(h:MulInv a b o i k x 0)(hk:b.length<=k)(hx:a[i]?.getD 0=x):val o=val (a.take (i+1))*val b:=by
 obtain⟨h1,h2,h3⟩:=h
 rw[List.take_of_length_le hk] at h3
 rw[val_take_next a i x hx,Nat.add_mul,Nat.mul_comm (4294967296 ^ i) x,Nat.mul_assoc]
 omega

set_option maxHeartbeats 4000000
set_option maxRecDepth 100000
section
theorem own_len{w:World}{B e:Nat}{v:Value}{n:Nat}{o:List Nat}(h:w.ownsRow B e 1 v n (enc o)):o.length=n:=by
 have:=h.1
 rwa [enc_length,Nat.mul_one] at this
theorem own_cell{w:World}{B e g n c:Nat}{o:List Nat}(h:w.ownsRow B e 1 (.slice (some ⟨g,0,none⟩) n c) n (enc o))(j q:Nat)(hj:j<n)(hq:o[j]?.getD 0=q):w.cell? ⟨g,j,none⟩=some (.int .u32 (q:Int)):=by
 rw[h.cellAt j (by omega),enc_get o j (by rw[own_len h];exact hj),hq]
theorem own_set{w:World}{B e g n c:Nat}{o:List Nat}(h:w.ownsRow B e 1 (.slice (some ⟨g,0,none⟩) n c) n (enc o))(j d:Nat) :
  (w.setCell ⟨g,j,none⟩ (.int .u32 (d:Int))).ownsRow B e 1 (.slice (some ⟨g,0,none⟩) n c) n (enc (o.set j d))/\w.grownBy (w.setCell ⟨g,j,none⟩ (.int .u32 (d:Int))) (some g):=by
 have:=h.stored j (.int .u32 (d:Int))
 have e:(enc o).set j (.int .u32 (d:Int))=enc (o.set j d):=by simp[enc,List.map_set]
 rw[e] at this
 exact this
theorem mulP_left{a b:Nm}(ha:a.right=false):mulP a b=(zero,false):=by simp[mulP,ha]
theorem mulP_right{a b:Nm}(hb:b.right=false):mulP a b=(zero,false):=by simp[mulP,hb]
theorem mulP_made{a b:Nm}{o:List Nat}(ra:a.right=true)(rb:b.right=true)(hv:val o=val a.d*val b.d):madeP (a.neg != b.neg) o=mulP a b:=by
 rw[madeP_fit,mulP,ra,rb,hv,Nm.z,Nm.z]
 have e:(((val a.d*val b.d:Nat)):Int)=(val a.d:Int)*(val b.d:Int):=by simp
 rw[e]
 cases a.neg<;>cases b.neg<;>simp[Int.neg_mul,Int.mul_neg]
theorem num_mul_main(a b:Nm)(na nb:Bool)(pa pb:Option Addr)(la ca lb cb:Nat)(w:World)(ha:NR w na pa la ca a)(hb:NR w nb pb lb cb b)(ra:a.right=true)(rb:b.right=true) :
  Calls Tryz.prog 155 #[.agg #[.bool na,.slice pa la ca],.agg #[.bool nb,.slice pb lb cb]] w (RetNum w (mulP a b)):=by
 have la64:=ha.len ra
 have lb64:=hb.len rb
 have hla:=ha.2.1
 have hlb:=hb.2.1
 have rowa:=ha.2.2
 have rowb:=hb.2.2
 have hnn:(na != nb)=(a.neg != b.neg):=by rw[ha.1,hb.1]
 have HNN:=Lib.hid hnn
 have la64':la<=64:=by omega
 have lb64':lb<=64:=by omega
 have HLA:=Lib.hid hla
 have HLB:=Lib.hid hlb
 clear hla hlb hnn
 obtain⟨i,hi,hz0,hz1,hz2⟩:=info_parts info32
 go_enter Tryz.func155,Tryz.ntmps155
 go_wp2_with fail
 refine (num_Right a _ _ _ _ _ (ha.ext bxx)).mono ?_
 rintro e w1 ⟨rfl,hx⟩
 rw[ra]
 have hx0:Ext w w1:=Ext.step bxx hx
 obtain⟨_,⟨_,hk_w1_0,hf_w1_0⟩,⟨_,hk_w1_1,hf_w1_1⟩,_,hk_w1_2,hf_w1_2⟩:=keepK3 hx w.heap.size
 go_wp2_with fail
 refine (num_Right b _ _ _ _ _ (hb.ext bxx)).mono ?_
 rintro e w2 ⟨rfl,hx2⟩
 rw[rb]
 have hx1:Ext w w2:=Ext.step hx0 hx2
 obtain⟨hz_w2,⟨_,hk_w2_0,hf_w2_0⟩,⟨_,hk_w2_1,hf_w2_1⟩,_,hk_w2_2,hf_w2_2⟩:=keepK3 hx2 w.heap.size
 obtain⟨N,hN⟩:∃N,N=la+lb:=⟨_,rfl⟩
 have hN1:N<=la+lb:=Nat.le_of_eq hN
 have hN2:la+lb<=N:=Nat.le_of_eq hN.symm
 clear hN
 go_wp2_with (at_make;refine wpList_make_full _ rfl _ _ 45 rfl w2.heap.size 135 i (.int .u32 0) 1 Tryz.underlying45 hi hz0 hz1 _ _ _ _ N rfl rfl (by omega) (by omega) (by rw[hz2];omega) (by unfold maxLen;omega) (Nat.le_refl _) ?_)
 intro w3 hown hgr
 rw[show (madeCells #[Value.int IntKind.u32 0] N).toList=enc (List.replicate N 0) from by rw[enc,List.map_replicate];exact toList_madeCells_one _ _] at hown
 obtain⟨g,G⟩:∃g,Hid (w2.heap.size=g):=⟨_,rfl⟩
 have hx3:Ext w2 w3:=⟨hgr.os,hgr.tape,hgr.output,hgr.size,fun k hk=>hgr.block k hk (by simp)⟩
 have hx4:Ext w w3:=Ext.step hx1 hx3
 obtain⟨_,⟨_,hk_w3_0,hf_w3_0⟩,⟨_,hk_w3_1,hf_w3_1⟩,_,hk_w3_2,hf_w3_2⟩:=keepK3 hx3 w.heap.size
 rw[G.out] at hown ⊢
 have hg0:w.heap.size+3<=g:=by rw[<- G.out];exact hz_w2
 have hg1:g<w3.heap.size:=by
  obtain⟨_,h⟩:=hown
  rcases h with⟨h,_⟩|⟨g',_,_,h,_,hh,_⟩
  ·cases h
  ·cases h
   exact (Array.getElem?_eq_some_iff.1 hh).1
 clear hgr hx hx2 hx3 hx0
 go_wp2_with fail
 have c0:w3.cell? ⟨w.heap.size,0,none⟩=some (.bool na):=by go_simp
 have c1:w3.cell? ⟨w.heap.size,1,none⟩=some (.slice pa la ca):=by go_simp
 have c2:w3.cell? ⟨w.heap.size+1,0,none⟩=some (.bool nb):=by go_simp
 have c3:w3.cell? ⟨w.heap.size+1,1,none⟩=some (.slice pb lb cb):=by go_simp
 have c4:w3.cell? ⟨w.heap.size+2,0,none⟩=some (.bool false):=by go_simp
 have c5:w3.cell? ⟨w.heap.size+2,1,none⟩=some (.slice none 0 0):=by go_simp
 have f4:∀o,w3.frozen? ⟨w.heap.size+2,o,none⟩=false:=by intro o;go_simp
 have rowa3:=rowa.ext hx4
 have rowb3:=rowb.ext hx4
 have bla:0<a.d.length->∀x,pa=some x->x.block≠g:=by
  intro h0 x hx
  obtain⟨b',o,hp,hlt,_⟩:=rowa.at h0
  rw[hp] at hx
  cases hx
  exact Nat.ne_of_lt (show b'<g by omega)
 have blb:0<b.d.length->∀x,pb=some x->x.block≠g:=by
  intro h0 x hx
  obtain⟨b',o,hp,hlt,_⟩:=rowb.at h0
  rw[hp] at hx
  cases hx
  exact Nat.ne_of_lt (show b'<g by omega)
 have BLA:=Lib.hid bla
 have BLB:=Lib.hid blb
 have C0:=Lib.hid c0
 have C2:=Lib.hid c2
 have C4:=Lib.hid c4
 have C5:=Lib.hid c5
 have C1:=Lib.hid c1
 have C3:=Lib.hid c3
 have F4:=Lib.hid f4
 have RA:=Lib.hid rowa3
 have RB:=Lib.hid rowb3
 clear hk_w1_0 hk_w1_1 hk_w1_2 hf_w1_0 hf_w1_1 hf_w1_2 hk_w2_0 hk_w2_1 hk_w2_2 hf_w2_0 hf_w2_1 hf_w2_2 hk_w3_0 hk_w3_1 hk_w3_2 hf_w3_0 hf_w3_1 hf_w3_2 c0 c1 c2 c3 c4 c5 f4 rowa3 rowb3 bla blb rowa rowb ha hb
 go_loopw [32] (fun i wr=>∃(n:Nat) (o:List Nat),n<=la/\i=.int .i64 (n:Int)/\Dig o/\val o=val (a.d.take n)*val b.d/\Zeros o (n+lb)/\wr.ownsRow g 135 1 (.slice (some ⟨g,0,none⟩) N N) N (enc o)/\w3.grownBy wr (some g)) (fun i _=>la-(intOf i).toNat)
 case atStart=>exact⟨0,_,Nat.zero_le _,rfl,fun x hx=>by rw[List.eq_of_mem_replicate hx];decide,by rw[val_replicate];simp[val],Zeros.replicate _ _,hown,⟨rfl,rfl,rfl,Nat.le_refl _,fun _ _ _=>rfl⟩⟩
 case round =>
  clear hown
  obtain⟨n,o,hn,rfl,hd,hv,hz,hown,hg⟩:=hrel
  by_cases hlt:n<la
  ·have RAw := RA.out.grown BLA.out hg
   obtain⟨ba,oa,rfl,hba,hca⟩:=RAw.at (by rw[<- HLA.out];omega)
   have hca1:=hca n (by rw[<- HLA.out];omega)
   obtain⟨x,X⟩:∃x,Hid (a.d[n]?.getD 0=x):=⟨_,rfl⟩
   rw[X.out] at hca1
   have hxd:x<4294967296:=by have:=RA.out.dig.getD n;rw[List.getD_eq_getElem?_getD,X.out] at this;exact this
   have c3:wr.cell? ⟨w.heap.size+1,1,none⟩=some (.slice pb lb cb):=(World.cell?_of_block (hg.block _ (show w.heap.size+1<w3.heap.size by omega) (by simp;omega))).trans C3.out
   have M0:=Lib.hid (MulInv.start (a:=a.d) (b:=b.d) (i:=n) (x:=x) hd hv)
   clear hca hd hv
   have V:=Lib.hid hz
   clear hz
   go_wp2_with fail
   go_loopw [9,40] (fun cr kk wi=>∃(k c:Nat) (q:List Nat),k<=lb/\kk=.int .i64 (k:Int)/\cr=.int .u64 (c:Int)/\MulInv a.d b.d q n k x c/\Zeros q (n+lb)/\wi.ownsRow g 135 1 (.slice (some ⟨g,0,none⟩) N N) N (enc q)/\w3.grownBy wi (some g)) (fun _ kk _=>lb-(intOf kk).toNat)
   case atStart=>exact⟨0,0,o,Nat.zero_le _,rfl,rfl,M0.out,V.out,hown,hg⟩
   case round =>
    clear hown hg c3 hca1
    obtain⟨k,c,q,hk,rfl,rfl,hm,hz,hown,hg⟩:=hrel
    by_cases hkl:k<lb
    ·have RBw := RB.out.grown BLB.out hg
     obtain⟨bb,ob,rfl,hbb,hcb⟩:=RBw.at (by rw[<- HLB.out];omega)
     have hcb1:=hcb k (by rw[<- HLB.out];omega)
     obtain⟨y,Y⟩:∃y,Hid (b.d[k]?.getD 0=y):=⟨_,rfl⟩
     rw[Y.out] at hcb1
     have hyd:y<4294967296:=by have:=RB.out.dig.getD k;rw[List.getD_eq_getElem?_getD,Y.out] at this;exact this
     obtain⟨u,U⟩:∃u,Hid (q[n+k]?.getD 0=u):=⟨_,rfl⟩
     have hud:u<4294967296:=by have:=hm.1.getD (n+k);rw[List.getD_eq_getElem?_getD,U.out] at this;exact this
     have hql:=own_len hown
     have hcu:=own_cell hown (n+k) u (by omega) U.out
     have hfu:=hown.frozenAt (n+k)
     obtain⟨m,MM⟩:∃m,Hid (x*y=m):=⟨_,rfl⟩
     have hme:(x:Int)*(y:Int)=(m:Int):=by rw[<- MM.out];simp
     have hmb:m<=18446744065119617025:=by rw[<- MM.out];exact Nat.mul_le_mul (show x<=4294967295 by omega) (show y<=4294967295 by omega)
     have hcd:=hm.2.1
     have M1:=Lib.hid (hm.step (by omega) hxd Y.out hyd U.out hud MM.out)
     have hst:=own_set hown (n+k) ((c+(u+m))%4294967296)
     have ST:=Lib.hid hst.1
     have SG:=Lib.hid (grownBy_trans hg hst.2)
     have Tryz1:=Lib.hid (hz.set (j:=n+k) (d:=(c+(u+m))%4294967296) (by omega))
     clear hcb hm hst hz hql hown hg
     go_wp2
     have e:(((c+(u+m))%4294967296:Nat):Int)=((c:Int)+((u:Int)+(m:Int)))%4294967296:=by omega
     have s1:=ST.out
     have s2:=SG.out
     rw[e] at s1 s2
     exact⟨⟨k+1,(c+(u+m))/4294967296,_,by omega,rfl,ret_u64 (by omega),M1.out,Tryz1.out,s1,s2⟩,by simp[intOf];omega⟩
    ·have hk2 : lb <= k := by omega
     have hql:=own_len hown
     have hcu:=own_cell hown (n+lb) 0 (by omega) (hz _ (Nat.le_refl _))
     have hfu:=hown.frozenAt (n+lb)
     obtain rfl:k=lb:=by omega
     have c3:wr.cell? ⟨w.heap.size+1,1,none⟩=some (.slice pb k cb):=(World.cell?_of_block (hg.block _ (show w.heap.size+1<w3.heap.size by omega) (by simp;omega))).trans C3.out
     have hst:=own_set hown (n+k) c
     have ST:=Lib.hid hst.1
     have SG:=Lib.hid (grownBy_trans hg hst.2)
     have FIN:=Lib.hid (hm.finish (by rw[<- HLB.out];exact Nat.le_refl _) X.out (hz _ (Nat.le_refl _)) (by omega))
     have hcd:=hm.2.1
     have Tryz1:=Lib.hid ((hz.mono (show n+k<=n+1+k by omega)).set (j:=n+k) (d:=c) (by omega))
     clear hst hm hz hql hown hg
     go_wp2
     exact⟨⟨n+1,_,by omega,rfl,FIN.out.1,FIN.out.2,Tryz1.out,ST.out,SG.out⟩,by simp[intOf];omega⟩
  ·obtain rfl : n = la := by omega
   have hql:=own_len hown
   obtain⟨p',c',hv',hrow,_⟩:=row_of_owns hown hd
   obtain⟨rfl,rfl⟩:some (⟨g,0,none⟩:Addr)=p'/\N=c':=by
    simp only[Value.slice.injEq] at hv'
    exact⟨hv'.1,hv'.2.2⟩
   have MP:Hid (madeP (na != nb) o=mulP a b):=by
    have:=mulP_made ra rb (o:=o) (by rw[hv,HLA.out,List.take_of_length_le (Nat.le_refl _)])
    rw[HNN.out];exact this
   have ROW:=Lib.hid hrow
   have HQ:=Lib.hid hql
   have hx5:Ext w wr:=⟨hg.os.trans hx4.os,hg.tape.trans hx4.tape,hg.output.trans hx4.output,Nat.le_trans hx4.size hg.size,fun k hk=>(hg.block k (by omega) (by simp;omega)).trans (hx4.block k hk)⟩
   have kp:∀j o,j<3->wr.cell? ⟨w.heap.size+j,o,none⟩=w3.cell? ⟨w.heap.size+j,o,none⟩:=fun j o hj=>World.cell?_of_block (hg.block _ (show w.heap.size+j<w3.heap.size by omega) (by simp;omega))
   have kf:∀j o,j<3->wr.frozen? ⟨w.heap.size+j,o,none⟩=w3.frozen? ⟨w.heap.size+j,o,none⟩:=fun j o hj=>World.frozen?_of_block (hg.block _ (show w.heap.size+j<w3.heap.size by omega) (by simp;omega))
   have c0:wr.cell? ⟨w.heap.size,0,none⟩=some (.bool na):=(kp 0 0 (by omega)).trans C0.out
   have c2:wr.cell? ⟨w.heap.size+1,0,none⟩=some (.bool nb):=(kp 1 0 (by omega)).trans C2.out
   have c4:wr.cell? ⟨w.heap.size+2,0,none⟩=some (.bool false):=(kp 2 0 (by omega)).trans C4.out
   have c5:wr.cell? ⟨w.heap.size+2,1,none⟩=some (.slice none 0 0):=(kp 2 1 (by omega)).trans C5.out
   have f4:∀o,wr.frozen? ⟨w.heap.size+2,o,none⟩=false:=fun o=>(kf 2 o (by omega)).trans (F4.out o)
   have hzr:w.heap.size+3<=wr.heap.size:=by have:=hg.size;omega
   clear kp kf hrow hql hv' hown hd hv hz hg
   go_wp2_with fail
   refine (num_made (na != nb) o _ _ _ _ ROW.out HQ.out.symm).mono ?_
   rintro e w4 ⟨n',p',l',c',rfl,hnr,hnew,hx6⟩
   rw[MP.out] at hnr ⊢
   have hx7:Ext w w4:=Ext.step hx5 hx6
   obtain⟨_,⟨_,_,_⟩,⟨_,_,_⟩,_,_,_⟩:=keepK3 hx6 w.heap.size
   go_wp2_with fail
   refine bodyPost_ret (v:=.tuple #[.agg #[.bool n',.slice p' l' c'],.bool (mulP a b).2]) (by simp[results,Tryz.results155,go_sem, *]) rfl ?_
   exact⟨n',p',l',c',rfl,(by repeat (first|assumption|refine NR.set ?_ (by assumption) _ (by first|(simp;done)|(simp;omega)|omega) _|refine NR.alloc ?_ _)),hnew.mono (by omega),bxx⟩
theorem num_Mul(a b:Nm)(na nb:Bool)(pa pb:Option Addr)(la ca lb cb:Nat)(w:World)(ha:NR w na pa la ca a)(hb:NR w nb pb lb cb b) :
  Calls Tryz.prog 155 #[.agg #[.bool na,.slice pa la ca],.agg #[.bool nb,.slice pb lb cb]] w (RetNum w (mulP a b)):=by
 by_cases ra:a.right=true
 ·by_cases rb : b.right = true
  ·exact num_mul_main a b na nb pa pb la ca lb cb w ha hb ra rb
  ·have rb : b.right = false := by simpa using rb
   have S:=Lib.hid (mulP_right (a:=a) rb)
   go_enter Tryz.func155,Tryz.ntmps155
   go_wp2_with fail
   refine (num_Right a _ _ _ _ _ (ha.ext bxx)).mono ?_
   rintro e w1 ⟨rfl,hx⟩
   rw[ra]
   have hx0:Ext w w1:=Ext.step bxx hx
   obtain⟨_,⟨_,hk_w1_0,hf_w1_0⟩,⟨_,hk_w1_1,hf_w1_1⟩,_,hk_w1_2,hf_w1_2⟩:=keepK3 hx w.heap.size
   go_wp2_with fail
   refine (num_Right b _ _ _ _ _ (hb.ext bxx)).mono ?_
   rintro e w2 ⟨rfl,hx2⟩
   rw[rb]
   have hx1:Ext w w2:=Ext.step hx0 hx2
   obtain⟨hz_w2,⟨_,hk_w2_0,hf_w2_0⟩,⟨_,hk_w2_1,hf_w2_1⟩,_,hk_w2_2,hf_w2_2⟩:=keepK3 hx2 w.heap.size
   go_wp2_with fail
   refine bodyPost_ret (v:=.tuple #[.agg #[.bool false,.slice none 0 0],.bool false]) (by simp[results,Tryz.results155,go_sem, *]) rfl ?_
   rw[S.out]
   exact⟨false,none,0,0,rfl,⟨rfl,rfl,Row.nil _⟩,New.none _,bxx⟩
 ·have ra : a.right = false := by simpa using ra
  have S:=Lib.hid (mulP_left (b:=b) ra)
  go_enter Tryz.func155,Tryz.ntmps155
  go_wp2_with fail
  refine (num_Right a _ _ _ _ _ (ha.ext bxx)).mono ?_
  rintro e w1 ⟨rfl,hx⟩
  rw[ra]
  have hx0:Ext w w1:=Ext.step bxx hx
  obtain⟨_,⟨_,hk_w1_0,hf_w1_0⟩,⟨_,hk_w1_1,hf_w1_1⟩,_,hk_w1_2,hf_w1_2⟩:=keepK3 hx w.heap.size
  go_wp2_with fail
  refine bodyPost_ret (v:=.tuple #[.agg #[.bool false,.slice none 0 0],.bool false]) (by simp[results,Tryz.results155,go_sem, *]) rfl ?_
  rw[S.out]
  exact⟨false,none,0,0,rfl,⟨rfl,rfl,Row.nil _⟩,New.none _,bxx⟩
end

set_option maxHeartbeats 2000000
set_option maxRecDepth 100000
section
theorem or_mul(s x c:Nat)(i:Nat)(hs:s=2 ^ i)(hc:c<s):s*x ||| c=s*x+c:=by
 subst hs
 exact (Nat.two_pow_add_eq_or_of_lt hc x).symm
theorem enc_mid(o z:List Nat)(x y:Nat):(enc (o++y::z)).set o.length (.int .u32 (x:Int))=enc (o++[x]++z):=by
 simp[enc]
theorem num_shifted(a:List Nat)(pa:Option Addr)(la ca i:Nat)(w:World)(ha:Row w pa ca a)(hla:la=a.length)(hi:i<32)(h64:a.length<=1000) :
  Calls Tryz.prog 203 #[.slice pa la ca,.int .i64 (i:Int)] w fun e w'=>∃o,o.length=a.length+1/\Dig o/\val o=2 ^ i*val a/\e=.returned (.slice (some ⟨w.heap.size,0,none⟩) (a.length+1) (a.length+1)) /\
   w'.ownsRow w.heap.size 135 1 (.slice (some ⟨w.heap.size,0,none⟩) (a.length+1) (a.length+1)) (a.length+1) (enc o)/\Ext w w':=by
 subst hla
 obtain⟨ii,hii,hz0,hz1,hz2⟩:=info_parts info32
 have hla:=ha.le
 have hma:=ha.max
 have hse:2 ^ i*2 ^ (32-i)=4294967296:=by rw[<- Nat.pow_add,show i+(32-i)=32 by omega]
 obtain⟨n1,N1⟩:∃n1,n1=a.length+1:=⟨_,rfl⟩
 have eN:(a.length:Int)+1=(n1:Int):=by omega
 rw[<- N1]
 have HN1:=Lib.hid N1
 have hn1:n1<=1001:=by omega
 have hn2:a.length<n1:=by omega
 have hn3:n1<=a.length+1:=by omega
 clear N1
 go_enter Tryz.func203,Tryz.ntmps203
 go_wp2_with (at_make;refine wpList_make_full _ rfl _ _ 45 rfl w.heap.size 135 ii (.int .u32 0) 1 Tryz.underlying45 hii hz0 hz1 _ _ _ _ n1 rfl rfl (by omega) (by omega) (by rw[hz2];omega) (by unfold maxLen;omega) (Nat.le_refl _) ?_)
 all_goals
  intro w1 hown hgr
  rw[show (madeCells #[Value.int IntKind.u32 0] n1).toList=enc ([]++List.replicate n1 0) from by rw[enc,List.nil_append,List.map_replicate];exact toList_madeCells_one _ _] at hown
  have hx0:Ext w w1:=⟨hgr.os,hgr.tape,hgr.output,hgr.size,fun k hk=>hgr.block k hk (by simp)⟩
  clear hgr
  go_wp2_with fail
  go_loopw [6,15] (fun cr k wr=>∃(o:List Nat) (c:Nat),o.length<=a.length/\k=.int .i64 (o.length:Int)/\cr=.int .u32 (c:Int)/\ShInv (2 ^ i) a o c/\wr.ownsRow w.heap.size 135 1 (.slice (some ⟨w.heap.size,0,none⟩) n1 n1) n1 (enc (o++List.replicate (n1-o.length) 0))/\Ext w wr) (fun _ k _=>a.length-(intOf k).toNat)
  case atStart=>exact⟨[],0,Nat.zero_le _,rfl,rfl,⟨Dig.nil,Nat.pow_pos (by omega),by simp[val]⟩,hown,hx0⟩
  case round =>
   clear hown hx0
   obtain⟨o,c,ho,rfl,rfl,hinv,hown,hx⟩:=hrel
   by_cases hlt:o.length<a.length
   ·obtain ⟨ba, oa, rfl, hba, hca⟩ := (ha.ext hx).at (by omega)
    have hc1:=hca o.length hlt
    have hxd:=ha.dig.getD o.length
    rw[List.getD_eq_getElem?_getD] at hxd
    have STEP:=sh_step hse hinv (d:=a[o.length]?.getD 0) rfl hxd
    obtain⟨x,X⟩:∃x,Hid (a[o.length]?.getD 0=x):=⟨_,rfl⟩
    rw[X.out] at hc1 hxd STEP
    have hcd:=hinv.2.1
    clear hca
    have hcw:wr.cell? ⟨w.heap.size,o.length,none⟩=some (.int .u32 0):=by
     rw[hown.cellAt o.length (by omega)]
     rw[enc_get _ _ (by simp;omega)]
     rw[List.getElem?_append_right (by omega),Nat.sub_self,List.getElem?_replicate,if_pos (by omega)]
     rfl
    have hfw:=hown.frozenAt o.length
    have OR:bits .or .u32 ((x:Int)*2 ^ i%4294967296) (c:Int)=((x%2 ^ (32-i)*2 ^ i+c:Nat):Int):=by
     have e1:(x:Int)*2 ^ i%4294967296=((x%2 ^ (32-i)*2 ^ i:Nat):Int):=by
      have h2:x*2 ^ i%4294967296=x%2 ^ (32-i)*2 ^ i:=by
       rw[<- hse,Nat.mul_comm x,Nat.mul_mod_mul_left,Nat.mul_comm]
      have hp:(2:Int) ^ i=((2 ^ i:Nat):Int):=(Int.natCast_pow 2 i).symm
      rw[<- h2,hp,<- Int.natCast_mul]
      generalize x*2 ^ i=t
      omega
     rw[e1,u32_or_nat _ _ (by omega) (by omega),Nat.mul_comm (x%2 ^ (32-i)),or_mul _ _ _ _ rfl hcd]
    have DV:(x:Int)/2 ^ (32-i)%4294967296=((x/2 ^ (32-i):Nat):Int):=by
     have h2:x/2 ^ (32-i)<4294967296:=Nat.lt_of_le_of_lt (Nat.div_le_self _ _) hxd
     have hp:(2:Int) ^ (32-i)=((2 ^ (32-i):Nat):Int):=(Int.natCast_pow 2 (32-i)).symm
     have e3:(x:Int)/2 ^ (32-i)=((x/2 ^ (32-i):Nat):Int):=by rw[hp];rfl
     rw[e3]
     generalize x/2 ^ (32-i)=t at *
     omega
    obtain⟨S1,S2⟩:=STEP
    obtain⟨hown3,hg3⟩:=hown.stored o.length (.int .u32 ((x%2 ^ (32-i)*2 ^ i+c:Nat):Int))
    rw[replicate_pred _ (show 0<n1-o.length by omega),enc_mid,List.append_assoc] at hown3
    obtain⟨y,Y⟩:∃y,Hid (x%2 ^ (32-i)*2 ^ i+c=y):=⟨_,rfl⟩
    obtain⟨c',C'⟩:∃c',Hid (x/2 ^ (32-i)=c'):=⟨_,rfl⟩
    rw[Y.out] at OR S1 S2 hown3
    rw[C'.out] at DV S1
    have OWN:=Lib.hid hown3
    have INV:=Lib.hid S1
    have hx3:Ext w (wr.setCell ⟨w.heap.size,o.length,none⟩ (.int .u32 (y:Int))):=Below.setCell hx (Nat.le_refl _) _
    have X3:=Lib.hid hx3
    clear hown hown3 hg3 hx3 S1 hinv hx
    go_wp2
    refine⟨⟨o++[y],c',by simp;omega,by simp,by rw[DV],INV.out,?_,X3.out⟩,by simp[intOf];omega⟩
    rw[List.length_append,List.length_singleton,List.append_assoc,Nat.sub_add_eq]
    exact OWN.out
   ·have hol : o.length = a.length := by omega
    have hn4:n1-o.length=1:=by have:=HN1.out;omega
    have END:=Lib.hid (sh_end hinv hol)
    have hcd:=hinv.2.1
    have hp:2 ^ i<=2147483648:=by
     have:2 ^ i<=2 ^ 31:=Nat.pow_le_pow_right (by omega) (by omega)
     omega
    rw[hn4] at hown
    have hcw:wr.cell? ⟨w.heap.size,a.length,none⟩=some (.int .u32 0):=by
     rw[hown.cellAt a.length (by omega)]
     rw[enc_get _ _ (by simp;omega)]
     rw[List.getElem?_append_right (by omega),hol,Nat.sub_self]
     rfl
    have hfw:=hown.frozenAt a.length
    obtain⟨hown3,hg3⟩:=hown.stored a.length (.int .u32 (c:Int))
    rw[<- hol,show o++List.replicate 1 0=o++0::[] from rfl,enc_mid,List.append_nil,hol] at hown3
    have OWN:=Lib.hid hown3
    have hx3:Ext w (wr.setCell ⟨w.heap.size,a.length,none⟩ (.int .u32 (c:Int))):=Below.setCell hx (Nat.le_refl _) _
    have X3:=Lib.hid hx3
    have DO:=Lib.hid hinv.1
    clear hown hown3 hg3 hx3 hinv hx
    rw[hol]
    go_wp2
    go_ret
    exact⟨o++[c],by rw[List.length_append,List.length_singleton,hol];exact HN1.out.symm,DO.out.append (Dig.cons (by omega) Dig.nil),END.out,rfl,OWN.out,X3.out⟩
end

set_option maxHeartbeats 4000000
set_option maxRecDepth 100000
section
theorem getD_val(d:List Nat)(n:Nat):val (d.take (n+1))=val (d.take n)+4294967296 ^ n*(d[n]?.getD 0):=val_take_K d n
theorem guess_nums{u v:List Nat}{m:Nat}(hu:u.length=m+3)(hv:v.length=m+2)(du:Dig u)(dv:Dig v) :
  val u=val (u.take m)+4294967296 ^ m*(u[m]?.getD 0+4294967296*(u[m+1]?.getD 0+4294967296*(u[m+2]?.getD 0)))/\val (u.take m)<4294967296 ^ m /\
  val v=val (v.take m)+4294967296 ^ m*(v[m]?.getD 0+4294967296*(v[m+1]?.getD 0))/\val (v.take m)<4294967296 ^ m:=by
 have h1:=val_lt (du.take m)
 have h2:=val_lt (dv.take m)
 rw[List.length_take,Nat.min_eq_left (by omega)] at h1 h2
 refine⟨?_,h1,?_,h2⟩
 ·have e0 := getD_val u m
  have e1:=getD_val u (m+1)
  have e2:=getD_val u (m+2)
  have ep:(4294967296:Nat) ^ (m+1)=4294967296 ^ m*4294967296:=Nat.pow_succ _ _
  have ep2:(4294967296:Nat) ^ (m+2)=4294967296 ^ m*4294967296*4294967296:=by rw[Nat.pow_succ,ep]
  rw[List.take_of_length_le (by omega),e1,e0,ep,ep2] at e2
  rw[e2]
  generalize 4294967296 ^ m=P
  grind
 ·have e0 := getD_val v m
  have e1:=getD_val v (m+1)
  have ep:(4294967296:Nat) ^ (m+1)=4294967296 ^ m*4294967296:=Nat.pow_succ _ _
  rw[List.take_of_length_le (by omega),e0,ep] at e1
  rw[e1]
  generalize 4294967296 ^ m=P
  grind
theorem num_guess(u v:List Nat)(pu pv:Option Addr)(cu cv m:Nat)(w:World)(hu:Row w pu cu u)(hv:Row w pv cv v)(hul:u.length=m+3)(hvl:v.length=m+2)(hm:m<=1000)
  (ht:0<v[m+1]?.getD 0) (hlt:val u<4294967296*val v) :
  Calls Tryz.prog 205 #[.slice pu (m+3) cu,.slice pv (m+2) cv] w fun e w'=>∃q:Nat,e=.returned (.int .u64 (q:Int))/\q<4294967296/\val u/val v<=q/\q<=val u/val v+1/\Ext w w':=by
 obtain⟨eU,hw0,eV,hv0⟩:=guess_nums hul hvl hu.dig hv.dig
 have lu0:=hu.le
 have lu1:=hu.max
 have lv0:=hv.le
 have lv1:=hv.max
 obtain⟨bu,ou,rfl,hbu,hcu⟩:=hu.at (by omega)
 obtain⟨bv,ov,rfl,hbv,hcv⟩:=hv.at (by omega)
 have c0:=hcu m (by omega)
 have c1:=hcu (m+1) (by omega)
 have c2:=hcu (m+2) (by omega)
 have k0:=hcv m (by omega)
 have k1:=hcv (m+1) (by omega)
 have d0:=hu.dig.getD m
 have d1:=hu.dig.getD (m+1)
 have d2:=hu.dig.getD (m+2)
 have f0:=hv.dig.getD m
 have f1:=hv.dig.getD (m+1)
 rw[List.getD_eq_getElem?_getD] at d0 d1 d2 f0 f1
 obtain⟨u2,U2⟩:∃x,Hid (u[m]?.getD 0=x):=⟨_,rfl⟩
 obtain⟨u1,U1⟩:∃x,Hid (u[m+1]?.getD 0=x):=⟨_,rfl⟩
 obtain⟨ut,UT⟩:∃x,Hid (u[m+2]?.getD 0=x):=⟨_,rfl⟩
 obtain⟨v2,V2⟩:∃x,Hid (v[m]?.getD 0=x):=⟨_,rfl⟩
 obtain⟨v1,V1⟩:∃x,Hid (v[m+1]?.getD 0=x):=⟨_,rfl⟩
 rw[U2.out] at c0 d0 eU
 rw[U1.out] at c1 d1 eU
 rw[UT.out] at c2 d2 eU
 rw[V2.out] at k0 f0 eV
 rw[V1.out] at k1 f1 eV ht
 obtain⟨U,HU⟩:∃x,Hid (val u=x):=⟨_,rfl⟩
 obtain⟨V,HV⟩:∃x,Hid (val v=x):=⟨_,rfl⟩
 obtain⟨w0,W0⟩:∃x,Hid (val (u.take m)=x):=⟨_,rfl⟩
 obtain⟨v0,V0⟩:∃x,Hid (val (v.take m)=x):=⟨_,rfl⟩
 obtain⟨P,HP⟩:∃x:Nat,Hid ((4294967296:Nat) ^ m=x):=⟨_,rfl⟩
 rw[HU.out,W0.out,HP.out] at eU
 rw[HV.out,V0.out,HP.out] at eV
 rw[HU.out,HV.out] at hlt ⊢
 rw[W0.out,HP.out] at hw0
 rw[V0.out,HP.out] at hv0
 have DEC:=Lib.hid (fun q r (hq:q*v1+r=u1+4294967296*ut) (hle:U/V<=q) h=>guess_dec (r:=r) hw0 eU eV hlt hq hle h)
 have END:=Lib.hid (fun q r (hq:q*v1+r=u1+4294967296*ut) h=>guess_end (r:=r) hv0 ht f0 hw0 d1 eU eV hlt hq h)
 have hP:0<P:=by omega
 have START:Hid (U/V<=(u1+4294967296*ut)/v1):=by
  refine guess_start (w:=w0+P*u2) (P:=P*4294967296) (vr:=v0+P*v2) ?_ ?_ ?_ ht
  ·have h9 : P * (u2 + 1) <= P * 4294967296 := Nat.mul_le_mul_left P d0
   have e9:P*(u2+1)=P*u2+P:=by grind
   omega
  ·rw[eU];grind
  ·rw[eV];grind
 have hv1:((v1:Int)==0)=false:=by rw[beq_eq_false_iff_ne];omega
 have OH:=or_u64 ut u1 d2 d1
 obtain⟨high,HH⟩:∃x,Hid (u1+4294967296*ut=x):=⟨_,rfl⟩
 rw[show ut*4294967296+u1=u1+4294967296*ut by omega,HH.out] at OH
 rw[HH.out] at START DEC END
 have hhigh:high<18446744073709551616:=by have:=HH.out;omega
 have DQ:=tdiv_nat high v1
 have DR:=tmod_nat high v1
 have hr0:high%v1<v1:=Nat.mod_lt _ ht
 have hq0:high/v1<=high:=Nat.div_le_self _ _
 have hqr:high/v1*v1+high%v1=high:=by rw[Nat.mul_comm];exact Nat.div_add_mod _ _
 obtain⟨q0,Q0⟩:∃x,Hid (high/v1=x):=⟨_,rfl⟩
 obtain⟨r0,R0⟩:∃x,Hid (high%v1=x):=⟨_,rfl⟩
 rw[Q0.out] at DQ hq0 hqr START
 rw[R0.out] at DR hr0 hqr
 have QR:=Lib.hid hqr
 clear hqr hcu hcv hlt eU eV hw0 hv0 hP hu hv hul hvl
 go_enter Tryz.func205,Tryz.ntmps205
 go_upto_region 2 with (fail)
 go_quiet (fail)
 go_upto_region 3 with (fail)
 go_quiet (fail)
 go_wp2_with fail
 go_loopw [7,8] (fun qs rs wr=>∃(q r:Nat),qs=.int .u64 (q:Int)/\rs=.int .u64 (r:Int)/\q*v1+r=high/\U/V<=q/\q<=q0/\r<8589934592/\Ext w wr) (fun qs _ _=>(intOf qs).toNat)
 case atStart=>exact⟨q0,r0,rfl,rfl,QR.out,START.out,Nat.le_refl _,by omega,bxx⟩
 case round =>
  obtain⟨q,r,rfl,rfl,hqr,hle,hq,hr,hx⟩:=hrel
  have kc0:=(hx.cell (p:=⟨bu,ou+m,none⟩) hbu).trans c0
  have kk0:=(hx.cell (p:=⟨bv,ov+m,none⟩) hbv).trans k0
  have kk1:=(hx.cell (p:=⟨bv,ov+(m+1),none⟩) hbv).trans k1
  have QR2:=Lib.hid hqr
  have LE:=Lib.hid hle
  have HX:=Lib.hid hx
  clear hqr hle hx c0 c1 c2 k0 k1
  by_cases h1:4294967296<=r
  ·have E1 : ((r : Int) / 4294967296 == 0) = false := by rw [beq_eq_false_iff_ne]; omega
   obtain⟨z1,z2⟩:=END.out q r QR2.out (.inl h1)
   go_upto_region 4 with (fail)
   go_quiet (fail)
   go_wp2
   go_ret
   exact⟨q,rfl,z1,LE.out,z2,by have:=HX.out;exact bxx⟩
  ·have h1' : r < 4294967296 := by omega
   have E1:((r:Int)/4294967296==0)=true:=by rw[beq_iff_eq];omega
   have OR:=or_u64 r u2 h1' d0
   obtain⟨s,HS⟩:∃x,Hid (r*4294967296+u2=x):=⟨_,rfl⟩
   rw[HS.out] at OR
   have hv1b:r+v1<8589934592:=by omega
   have hqb:q<18446744073709551616:=by omega
   by_cases h2:4294967296<=q
   ·have E2 : decide (0 < (q : Int) / 4294967296) = true := by rw [decide_eq_true_eq]; omega
    have hq1:1<=q:=by omega
    obtain⟨z1,z2⟩:=DEC.out q r QR2.out LE.out (.inl h2)
    have NX:=Lib.hid (show (q-1)*v1+(r+v1)=high by
     obtain⟨p,rfl⟩:∃p,q=p+1:=⟨q-1,by omega⟩
     have:=QR2.out
     rw[Nat.add_sub_cancel]
     have e:(p+1)*v1=p*v1+v1:=by grind
     omega)
    have LE2:=Lib.hid z2
    clear z2
    go_upto_region 4 with (fail)
    go_quiet (fail)
    go_wp2
    refine⟨⟨q-1,r+v1,by rw[Int.natCast_sub hq1];rfl,by push_cast;rfl,NX.out,LE2.out,by omega,hv1b,by have:=HX.out;exact bxx⟩,by simp[intOf];omega⟩
   ·have E2 : decide (0 < (q : Int) / 4294967296) = false := by rw [decide_eq_false_iff_not]; omega
    have hqv:q*v2<=4294967295*4294967295:=Nat.mul_le_mul (by omega) (by omega)
    have QV:(q:Int)*(v2:Int)=((q*v2:Nat):Int):=by push_cast;rfl
    have hsb:s<18446744073709551616:=by have:=HS.out;omega
    by_cases h3:r*4294967296+u2<q*v2
    ·obtain ⟨z1, z2⟩ := DEC.out q r QR2.out LE.out (.inr h3)
     rw[HS.out] at h3
     obtain⟨tt,HT⟩:∃x,Hid (q*v2=x):=⟨_,rfl⟩
     rw[HT.out] at h3 QV hqv
     have E3:decide ((s:Int)<(tt:Int))=true:=by rw[decide_eq_true_eq];omega
     have hq1:=z1
     have NX:=Lib.hid (show (q-1)*v1+(r+v1)=high by
      obtain⟨p,rfl⟩:∃p,q=p+1:=⟨q-1,by omega⟩
      have:=QR2.out
      rw[Nat.add_sub_cancel]
      have e:(p+1)*v1=p*v1+v1:=by grind
      omega)
     have LE2:=Lib.hid z2
     clear z2
     go_upto_region 4 with (fail)
     go_quiet (fail)
     go_wp2
     refine⟨⟨q-1,r+v1,by rw[Int.natCast_sub hq1];rfl,by push_cast;rfl,NX.out,LE2.out,by omega,hv1b,by have:=HX.out;exact bxx⟩,by simp[intOf];omega⟩
    ·obtain ⟨z1, z2⟩ := END.out q r QR2.out (.inr ⟨by omega, by omega⟩)
     rw[HS.out] at h3
     obtain⟨tt,HT⟩:∃x,Hid (q*v2=x):=⟨_,rfl⟩
     rw[HT.out] at h3 QV hqv
     have E3:decide ((s:Int)<(tt:Int))=false:=by rw[decide_eq_false_iff_not];omega
     go_upto_region 4 with (fail)
     go_quiet (fail)
     go_wp2
     go_ret
     exact⟨q,rfl,z1,LE.out,z2,by have:=HX.out;exact bxx⟩
end
end Go.Proofs.YteajakbpmeebnaaGreat
