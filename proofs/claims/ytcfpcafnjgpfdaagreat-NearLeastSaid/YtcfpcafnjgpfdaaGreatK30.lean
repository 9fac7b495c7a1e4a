import Derived.Test.YtcfpcafnjgpfdaaGreatK29
set_option linter.unusedVariables false
set_option linter.unusedSimpArgs false

namespace Go.Proofs.YtcfpcafnjgpfdaaGreat
open Go.RowKit

set_option maxRecDepth 100000
section
def vX(k:Nat):Int:=[3,4,5,12,8,15,7,24].getD (k%8) 0
def vY(k:Nat):Int:=[4,3,12,5,15,8,24,7].getD (k%8) 0
def vH(k:Nat):Int:=[5,5,13,13,17,17,25,25].getD (k%8) 1
def onU(e:Ed)(k:Nat):Int:=(vX k*radZ e).tdiv (vH k)
def onV(e:Ed)(k:Nat):Int:=(vY k*radZ e).tdiv (vH k)
def dF14(e:Ed)(k:Nat):Ds:=⟨[(1,.eq (fpW (eW e))),(6,.eq (fpW vA)),(7,.eq (fpW hA)),(8,.eq (inV (radZ e) 134217728)),(9,.eq ⟨false,[.k (k:Int)]⟩)],[]⟩
def dG14(e:Ed)(k:Nat):Ds:=⟨[(1,.eq (fpW (eW e))),(8,.eq (inV (radZ e) 134217728)),(9,.eq ⟨false,[.k (k:Int)]⟩),(10,.eq ⟨false,[.p 0 0]⟩)],[some ⟨25,ptW (onU e k) (onV e k)⟩]⟩
def psF(e:Ed)(k:Nat):List Prop:=[vH k≠0,vH k≠0,fpW (eW e)=fpW (eW e),inV (radZ e) 134217728=inV (radZ e) 134217728,(⟨false,[.k (k:Int)]⟩:V1)=⟨false,[.k (k:Int)]⟩,(⟨false,[.p 0 0]⟩:V1)=⟨false,[.p 0 0]⟩,onU e k=onU e k/\(onU e k).natAbs<=c26,onV e k=onV e k/\(onV e k).natAbs<=c26]
theorem r14F(e:Ed):∀k:Nat,k<32->runD [] [] (opR fOn 14) 116 (dF14 e k) (dG14 e k) []=some (psF e k)
 | 0,_=>by kernel_rfl
 | 1,_=>by kernel_rfl
 | 2,_=>by kernel_rfl
 | 3,_=>by kernel_rfl
 | 4,_=>by kernel_rfl
 | 5,_=>by kernel_rfl
 | 6,_=>by kernel_rfl
 | 7,_=>by kernel_rfl
 | 8,_=>by kernel_rfl
 | 9,_=>by kernel_rfl
 | 10,_=>by kernel_rfl
 | 11,_=>by kernel_rfl
 | 12,_=>by kernel_rfl
 | 13,_=>by kernel_rfl
 | 14,_=>by kernel_rfl
 | 15,_=>by kernel_rfl
 | 16,_=>by kernel_rfl
 | 17,_=>by kernel_rfl
 | 18,_=>by kernel_rfl
 | 19,_=>by kernel_rfl
 | 20,_=>by kernel_rfl
 | 21,_=>by kernel_rfl
 | 22,_=>by kernel_rfl
 | 23,_=>by kernel_rfl
 | 24,_=>by kernel_rfl
 | 25,_=>by kernel_rfl
 | 26,_=>by kernel_rfl
 | 27,_=>by kernel_rfl
 | 28,_=>by kernel_rfl
 | 29,_=>by kernel_rfl
 | 30,_=>by kernel_rfl
 | 31,_=>by kernel_rfl
 | k+32,h=>by omega
def onP(e:Ed)(k:Nat):Int×Int:=applyQ e.cx e.cy ((k/8:Nat):Int) false (onU e k) (onV e k)
def dG15(e:Ed)(k:Nat):Ds:=⟨[(1,.eq (fpW (eW e))),(8,.eq (inV (radZ e) 134217728)),(10,.eq ⟨false,[.p 0 0]⟩)],[some ⟨25,ptW (onP e k).1 (onP e k).2⟩]⟩
def psG(e:Ed)(k:Nat):List Prop:=[fpW (eW e)=fpW (eW e),inV (radZ e) 134217728=inV (radZ e) 134217728,(⟨false,[.p 0 0]⟩:V1)=⟨false,[.p 0 0]⟩,(onP e k).1=(onP e k).1/\(onP e k).1.natAbs<=c26,(onP e k).2=(onP e k).2/\(onP e k).2.natAbs<=c26]
theorem r15F(e:Ed):∀k:Nat,k<32->runS [] [dApply] (opR fOn 15) (opR fOn 15) 116 (dG14 e k) (dG15 e k) []=some (psG e k)
 | 0,_=>by kernel_rfl
 | 1,_=>by kernel_rfl
 | 2,_=>by kernel_rfl
 | 3,_=>by kernel_rfl
 | 4,_=>by kernel_rfl
 | 5,_=>by kernel_rfl
 | 6,_=>by kernel_rfl
 | 7,_=>by kernel_rfl
 | 8,_=>by kernel_rfl
 | 9,_=>by kernel_rfl
 | 10,_=>by kernel_rfl
 | 11,_=>by kernel_rfl
 | 12,_=>by kernel_rfl
 | 13,_=>by kernel_rfl
 | 14,_=>by kernel_rfl
 | 15,_=>by kernel_rfl
 | 16,_=>by kernel_rfl
 | 17,_=>by kernel_rfl
 | 18,_=>by kernel_rfl
 | 19,_=>by kernel_rfl
 | 20,_=>by kernel_rfl
 | 21,_=>by kernel_rfl
 | 22,_=>by kernel_rfl
 | 23,_=>by kernel_rfl
 | 24,_=>by kernel_rfl
 | 25,_=>by kernel_rfl
 | 26,_=>by kernel_rfl
 | 27,_=>by kernel_rfl
 | 28,_=>by kernel_rfl
 | 29,_=>by kernel_rfl
 | 30,_=>by kernel_rfl
 | 31,_=>by kernel_rfl
 | k+32,h=>by omega
end

set_option maxRecDepth 100000
section
def dG16(e:Ed)(k:Nat):Ds:=⟨[(10,.eq ⟨false,[.p 0 0]⟩),(110,.eq (blV (onE e (onP e k).1 (onP e k).2)))],[some ⟨25,ptW (onP e k).1 (onP e k).2⟩]⟩
def dH16(e:Ed)(k:Nat):Ds:=⟨[(10,.eq ⟨false,[.p 0 0]⟩),(110,.eq ⟨false,[.b false]⟩)],[some ⟨25,ptW (onP e k).1 (onP e k).2⟩]⟩
def SmK(e:Ed)(k:Nat):Prop:=((onU e k).natAbs<=c26/\(onV e k).natAbs<=c26)/\(onP e k).1.natAbs<=c26/\(onP e k).2.natAbs<=c26
theorem vH_ne(k:Nat):vH k≠0:=by
 unfold vH
 have:k%8<8:=Nat.mod_lt _ (by decide)
 generalize k%8=j at this
 obtain rfl|rfl|rfl|rfl|rfl|rfl|rfl|rfl:j=0\/j=1\/j=2\/j=3\/j=4\/j=5\/j=6\/j=7:=by omega
 all_goals decide
def pf14(e:Ed)(k:Nat)(h:SmK e k):List Pf:=[⟨vH k≠0,vH_ne k⟩,⟨vH k≠0,vH_ne k⟩,⟨fpW (eW e)=fpW (eW e),rfl⟩,⟨inV (radZ e) 134217728=inV (radZ e) 134217728,rfl⟩,⟨(⟨false,[.k (k:Int)]⟩:V1)=⟨false,[.k (k:Int)]⟩,rfl⟩,⟨(⟨false,[.p 0 0]⟩:V1)=⟨false,[.p 0 0]⟩,rfl⟩,⟨onU e k=onU e k/\(onU e k).natAbs<=c26,rfl,h.1.1⟩,⟨onV e k=onV e k/\(onV e k).natAbs<=c26,rfl,h.1.2⟩]
def pf15(e:Ed)(k:Nat)(h:SmK e k):List Pf:=[⟨fpW (eW e)=fpW (eW e),rfl⟩,⟨inV (radZ e) 134217728=inV (radZ e) 134217728,rfl⟩,⟨(⟨false,[.p 0 0]⟩:V1)=⟨false,[.p 0 0]⟩,rfl⟩,⟨(onP e k).1=(onP e k).1/\(onP e k).1.natAbs<=c26,rfl,h.2.1⟩,⟨(onP e k).2=(onP e k).2/\(onP e k).2.natAbs<=c26,rfl,h.2.2⟩]
theorem off_2{l m:List Oper}{t:Nat}(h:offT (l++m) t=true):offT l t=true/\offT m t=true:=by
 unfold offT at *
 rwa [List.all_append,Bool.and_eq_true] at h
theorem on_r14(e:Ed)(k:Nat)(he:e.ok=true)(hs:SmK e k)(hk:k<32)(a:Act)(W:World)(b1 b6 b7:Nat)(Q:Exit->Act->World->Prop)(hsz:a.tmps.size=116)(h1:a.tmps.getD 1 undef=ptrW b1)(h6:a.tmps.getD 6 undef=ptrW b6)(h7:a.tmps.getD 7 undef=ptrW b7)(h8:a.tmps.getD 8 undef=.int .i64 (radZ e))(h9:a.tmps.getD 9 undef=.int .i64 (k:Int))(f1:FqAt W b1 (eW e))(f6:FqAt W b6 vA)(f7:FqAt W b7 hA)
  (hQ:∀a' W' b10,a'.tmps.size=116->a'.defers=a.defers->(∀t,offT (opR fOn 14++(opR fOn 15++opR fOn 16)) t=true->a'.tmps.getD t undef=a.tmps.getD t undef)->Ext W W'->(∃b,a'.tmps.getD 110 undef=.bool b/\(b=true->onE e (onP e k).1 (onP e k).2=true))->a'.tmps.getD 10 undef=ptrW b10->FqAt W' b10 (ptW (onP e k).1 (onP e k).2)->Q .normal a' W') :
  (Code.region 14 (opR fOn 14).toArray true).wp Tryz.prog (Exit.then ((Code.region 15 (opR fOn 15).toArray false).wp Tryz.prog (Exit.then ((Code.region 16 (opR fOn 16).toArray false).wp Tryz.prog Q) Q)) Q) a W:=by
 have hr:=(rad_b he).1
 refine regD_wp (X:=[]) (K:=[]) (d:=dF14 e k) (d':=dG14 e k) (q:=[]) (pf14 e k hs) (r14F e k hk) (old_J hsz fun z hz=>?_) fun a1 W1 hJ1 ho1=>?_
 ·simp only [dF14, List.mem_cons, List.not_mem_nil, or_false] at hz
  rcases hz with rfl|rfl|rfl|rfl|rfl
  ·rw[h1];exact f1.rv
  ·rw[h6];exact f6.rv
  ·rw[h7];exact f7.rv
  ·rw[h8];exact rv_i.2 ⟨⟨by omega,by unfold I64;omega⟩,rfl⟩
  ·rw[h9];exact⟨[_],⟨[_],[],rfl,⟨rfl,by unfold I64;omega⟩,rfl⟩,rfl,fun _=>rfl⟩
 refine regS_wp (runS_ok (X:=[]) (K:=[dApply]) (n:=116) (d:=dG14 e k) (d':=dG15 e k) (q:=[]) (pf15 e k hs) (r15F e k hk) (jdf hJ1) fun a2 W2 hJ2 ho2=>?_)
 have fin:∀(D:Ds) (b:Bool) a3 W3,D.m=[some ⟨25,ptW (onP e k).1 (onP e k).2⟩]->(mkS 116 D).t.get 10=some (.one ⟨false,[.p 0 0]⟩)->JJ W (mkS 116 D) a3 W3->(∀t,offT (opR fOn 16) t=true->a3.tmps.getD t undef=(dfA (dfA a.defers a1).defers a2).tmps.getD t undef)->a3.tmps.getD 110 undef=.bool b->(b=true->onE e (onP e k).1 (onP e k).2=true)->Q .normal (dfA (dfA (dfA a.defers a1).defers a2).defers a3) W3:=fun D b a3 W3 hm h10 hJ ho h110 hb=>by
  obtain⟨k1,k2,r,k3,k4⟩:=blkW hJ
  refine hQ _ W3 (r 0) k2 rfl (fun t ht=>?_) k1 ⟨b,h110,hb⟩ ?_ (k4 0 ⟨25,ptW (onP e k).1 (onP e k).2⟩ (by rw[hm];rfl) (by kernel_rfl)).1
  ·obtain ⟨t1, t2⟩ := off_2 ht
   obtain⟨t2,t3⟩:=off_2 t2
   exact (ho t t3).trans ((ho2 t t2).trans (ho1 t t1))
  ·exact (List.cons.inj (k3 10 ⟨false,[.p 0 0]⟩ h10).scal.2).1
 by_cases h0:radZ e>0
 ·refine regS_wp (runS_ok (X := []) (K := [cOn]) (n := 116) (d := dG15 e k) (d' := dG16 e k) (q := [true]) [⟨decide (radZ e > 0) = true, by simpa using h0⟩, pP he, ⟨(⟨false, [.p 0 0]⟩ : V1) = ⟨false, [.p 0 0]⟩, rfl⟩, ⟨blV (onE e (onP e k).1 (onP e k).2) = blV (onE e (onP e k).1 (onP e k).2), rfl⟩, ⟨(onP e k).1 = (onP e k).1, rfl⟩, ⟨(onP e k).2 = (onP e k).2, rfl⟩] (by kernel_rfl) (jdf hJ2) fun a3 W3 hJ3 ho3 => ?_)
  obtain⟨k1,k2,r,k3,k4⟩:=blkW hJ3
  exact fin (dG16 e k) _ a3 W3 rfl (by kernel_rfl) hJ3 ho3 (rv_v.1 (k3 110 (blV (onE e (onP e k).1 (onP e k).2)) (by kernel_rfl))).2 (fun h=>h)
 ·refine regS_wp (runS_ok (X := []) (K := [cOn]) (n := 116) (d := dG15 e k) (d' := dH16 e k) (q := [false]) [⟨decide (radZ e > 0) = false, by simpa using h0⟩, ⟨(⟨false, [.p 0 0]⟩ : V1) = ⟨false, [.p 0 0]⟩, rfl⟩, ⟨(⟨false, [.b false]⟩ : V1) = ⟨false, [.b false]⟩, rfl⟩, ⟨(onP e k).1 = (onP e k).1, rfl⟩, ⟨(onP e k).2 = (onP e k).2, rfl⟩] (by kernel_rfl) (jdf hJ2) fun a3 W3 hJ3 ho3 => ?_)
  obtain⟨k1,k2,r,k3,k4⟩:=blkW hJ3
  exact fin (dH16 e k) false a3 W3 rfl (by kernel_rfl) hJ3 ho3 (List.cons.inj (show _=[Value.bool false] from (k3 110 ⟨false,[.b false]⟩ (by kernel_rfl)).scal)).1 nofun
end

set_option maxRecDepth 100000
section
noncomputable def c2:Code:=.seq (.seq (.region 12 (opR fOn 12).toArray false) (.cond (.tmp 69) .skip (.exit 2))) (.seq (.block 3 (.seq (.region 14 (opR fOn 14).toArray true) (.seq (.region 15 (opR fOn 15).toArray false) (.seq (.region 16 (opR fOn 16).toArray false) (.cond (.tmp 110) (.region 17 (opR fOn 17).toArray false) .skip))))) (.region 13 (opR fOn 13).toArray false))
def H2(e:Ed)(b1 b6 b7:Nat):List (Nat×Nat×List It):=[(1,b1,eW e),(6,b6,vA),(7,b7,hA)]
def U2(e:Ed):List (Nat×Value):=[(8,.int .i64 (radZ e))]
theorem H2_all{P:Nat×Nat×List It->Prop}{e:Ed}{b1 b6 b7:Nat}(h1:P (1,b1,eW e))(h6:P (6,b6,vA))(h7:P (7,b7,hA)):∀x∈H2 e b1 b6 b7,P x:=fun x hx=>by
 simp only[H2,List.mem_cons,List.not_mem_nil,or_false] at hx
 rcases hx with rfl|rfl|rfl<;>assumption
theorem U2_all{P:Nat×Value->Prop}{e:Ed}(h:P (8,.int .i64 (radZ e))):∀x∈U2 e,P x:=fun x hx=>by
 rw[List.mem_singleton.1 hx];exact h
theorem rnd_2(e:Ed)(he:e.ok=true)(hs:∀k,SmK e k)(w0:World)(b1 b6 b7:Nat)(k:Nat)(hk:k<=32)(Q:Exit->Act->World->Prop)(a:Act)(W:World)(h:InvP e w0 9 63 (H2 e b1 b6 b7) (U2 e) k a W)
  (h1:k<32->∀a' W',InvP e w0 9 63 (H2 e b1 b6 b7) (U2 e) (k+1) a' W'->Q .normal a' W') (h2:k=32->∀a' W',InvP e w0 9 63 (H2 e b1 b6 b7) (U2 e) 32 a' W'->Q (.exit 2) a' W'):c2.wp Tryz.prog Q a W:=by
 unfold c2
 refine wp_seq (wp_seq (on_r12 k hk a W _ h.sz h.cnt fun a1 W1 s1 d1 o1 x1 t69=>?_))
 have I1:InvP e w0 9 63 (H2 e b1 b6 b7) (U2 e) k a1 W1:=h.step (offT (opR fOn 12)) s1 (d1.trans h.df) o1 (by kernel_rfl) (by kernel_rfl) (H2_all (by kernel_rfl) (by kernel_rfl) (by kernel_rfl)) (U2_all (by kernel_rfl)) x1
 by_cases hle:k<32
 ·refine wp_cond_true (show a1.eval (.tmp 69) = .bool true by rw [show a1.eval (.tmp 69) = a1.tmps.getD 69 undef from rfl, t69]; simp; omega) (wp_skip ?_)
  refine wp_seq (wp_block (wp_seq ?_))
  obtain⟨p,n,c,L,r1,r2,r3,r4,r5,r6⟩:=I1.row
  obtain⟨q1,q2,q3,_⟩:=r6 (1,b1,eW e) (by simp[H2])
  obtain⟨q4,q5,q6,_⟩:=r6 (6,b6,vA) (by simp[H2])
  obtain⟨q7,q8,q9,_⟩:=r6 (7,b7,hA) (by simp[H2])
  have hO:=on_r14 e k he (hs k) hle a1 W1 b1 b6 b7 (Exit.then ((Code.cond (.tmp 110) (.region 17 (opR fOn 17).toArray false) .skip).wp Tryz.prog (Exit.inBlock 3 (Exit.then ((Code.region 13 (opR fOn 13).toArray false).wp Tryz.prog Q) Q))) (Exit.inBlock 3 (Exit.then ((Code.region 13 (opR fOn 13).toArray false).wp Tryz.prog Q) Q))) I1.sz q1 q4 q7 (I1.vals (8,.int .i64 (radZ e)) (by simp[U2])) I1.cnt q2 q5 q8 fun a2 W2 b10 s2 d2 o2 x2 ⟨b,t110,hon⟩ t10 f10=>?_
  ·refine wp_mono hO ?_
   intro x a' W' hx
   cases x with
   | normal=>exact wp_seq (wp_mono hx fun y a2 W2 hy=>by
     cases y with
     | normal=>exact wp_seq hy
     | _=>exact hy)
   | _=>exact hx
  ·have I2 : InvP e w0 9 63 (H2 e b1 b6 b7) (U2 e) k a2 W2 := I1.step (offT (opR fOn 14 ++ (opR fOn 15 ++ opR fOn 16))) s2 (d2.trans I1.df) o2 (by kernel_rfl) (by kernel_rfl) (H2_all (by kernel_rfl) (by kernel_rfl) (by kernel_rfl)) (U2_all (by kernel_rfl)) x2
   have fin:∀a3 W3,InvP e w0 9 64 (H2 e b1 b6 b7) (U2 e) k a3 W3->(Code.region 13 (opR fOn 13).toArray false).wp Tryz.prog Q a3 W3:=fun a3 W3 I3=>by
    refine on_r13 k (by omega) a3 W3 Q I3.sz I3.cnt fun a4 W4 s4 d4 o4 x4 t4=>h1 hle a4 W4 ?_
    obtain⟨p,n,c,L,r1,r2,r3,r4,r5,r6⟩:=I3.row
    exact⟨s4,d4.trans I3.df,t4,Ext.step I3.ext x4,U2_all ((o4 8 (by kernel_rfl)).trans (I3.vals (8,.int .i64 (radZ e)) (by simp[U2]))),p,n,c,L,(o4 3 (by kernel_rfl)).trans r1,r2.ext x4,by omega,r4,r5,r6.step (H2_all (o4 1 (by kernel_rfl)) (o4 6 (by kernel_rfl)) (o4 7 (by kernel_rfl))) x4⟩
   cases b with
   | true =>
    refine wp_cond_true (show a2.eval (.tmp 110)=.bool true by rw[show a2.eval (.tmp 110)=a2.tmps.getD 110 undef from rfl,t110]) ?_
    obtain⟨p,n,c,L,r1,r2,r3,r4,r5,r6⟩:=I2.row
    refine app_17 17 _ _ a2 W2 w0.heap.size b10 p n c L _ I2.sz r1 t10 f10 (by omega) r2 I2.ext.size fun a3 W3 W4 g' c' s3 d3 o3 x3 g3 b3 t3 w3=>?_
    refine fin a3 W4 ⟨s3,d3.trans I2.df,(o3 9 (by kernel_rfl)).trans I2.cnt,?_,U2_all ((o3 8 (by kernel_rfl)).trans (I2.vals (8,.int .i64 (radZ e)) (by simp[U2]))),_,_,_,_,t3,w3,by omega,by omega,?_,r6.grow (H2_all (o3 1 (by kernel_rfl)) (o3 6 (by kernel_rfl)) (o3 7 (by kernel_rfl))) x3 g3 b3⟩
    ·have e3 := Ext.step I2.ext x3
     exact⟨g3.os.trans e3.os,g3.tape.trans e3.tape,g3.output.trans e3.output,Nat.le_trans e3.size g3.size,fun j hj=>(g3.block j (Nat.lt_of_lt_of_le hj e3.size) (fun q=>by have:=(r2.lt j q.symm).1;omega)).trans (e3.block j hj)⟩
    ·intro q hq
     rcases List.mem_append.1 hq with hq|hq
     ·exact r5 q hq
     ·rw[List.mem_singleton.1 hq];exact hon rfl
   | false =>
    refine wp_cond_false (show a2.eval (.tmp 110)=.bool false by rw[show a2.eval (.tmp 110)=a2.tmps.getD 110 undef from rfl,t110]) (wp_skip ?_)
    obtain⟨p,n,c,L,r1,r2,r3,r4,r5,r6⟩:=I2.row
    exact fin a2 W2 ⟨I2.sz,I2.df,I2.cnt,I2.ext,I2.vals,p,n,c,L,r1,r2,by omega,r4,r5,r6⟩
 ·refine wp_cond_false (show a1.eval (.tmp 69) = .bool false by rw [show a1.eval (.tmp 69) = a1.tmps.getD 69 undef from rfl, t69]; simp; omega) (wp_exit ?_)
  obtain rfl:k=32:=by omega
  exact h2 rfl a1 W1 I1
theorem loop_2(e:Ed)(he:e.ok=true)(hs:∀k,SmK e k)(w0:World)(b1 b6 b7:Nat)(Q:Exit->Act->World->Prop)(a:Act)(W:World)(h:InvP e w0 9 63 (H2 e b1 b6 b7) (U2 e) 0 a W)
  (hQ:∀a' W',InvP e w0 9 63 (H2 e b1 b6 b7) (U2 e) 32 a' W'->Q (.exit 2) a' W'):(Code.loop c2).wp Tryz.prog Q a W:=by
 refine wp_loop_ghost (fun m a W=>∃k,k+m=32/\InvP e w0 9 63 (H2 e b1 b6 b7) (U2 e) k a W) 32 ⟨0,by omega,h⟩ ?_
 rintro m a W ⟨k,hk,I⟩
 refine rnd_2 e he hs w0 b1 b6 b7 k (by omega) _ a W I (fun hle a' W' I'=>⟨m-1,by omega,k+1,by omega,I'⟩) (fun hke a' W' I'=>hQ a' W' I')
end
theorem vb(k:Nat):(vX k).natAbs<=24/\(vY k).natAbs<=24:=by
 unfold vX vY
 have:k%8<8:=Nat.mod_lt _ (by decide)
 generalize k%8=j at this
 obtain rfl|rfl|rfl|rfl|rfl|rfl|rfl|rfl:j=0\/j=1\/j=2\/j=3\/j=4\/j=5\/j=6\/j=7:=by omega
 all_goals decide
theorem tdiv_le{x v r h:Int}(hv:v.natAbs<=24)(hr:r.natAbs<=2097152)(e:x=(v*r).tdiv h):x.natAbs<=50331648:=by
 rw[e,Int.natAbs_tdiv,Int.natAbs_mul]
 exact Nat.le_trans (Nat.div_le_self _ _) (Nat.mul_le_mul hv hr)
theorem smK{e:Ed}(hs:Sml e)(hr:(radZ e).natAbs<=2097152)(k:Nat):SmK e k:=by
 obtain⟨v1,v2⟩:=vb k
 have u:(onU e k).natAbs<=50331648:=tdiv_le v1 hr rfl
 have v:(onV e k).natAbs<=50331648:=tdiv_le v2 hr rfl
 have c:c26=67108864:=rfl
 have key:∀(t:Int) (x y:Int),x.natAbs<=50331648->y.natAbs<=50331648->(applyQ e.cx e.cy t false x y).1.natAbs<=c26/\(applyQ e.cx e.cy t false x y).2.natAbs<=c26:=fun t x y hx hy=>by
  have h0:applyQ e.cx e.cy t false x y=((rot (modZ t 4).toNat (x,y)).1+e.cx,(rot (modZ t 4).toNat (x,y)).2+e.cy):=by unfold applyQ applyP;simp[mir]
  have R:∀(n:Nat) (p:Int×Int),p.1.natAbs<=50331648/\p.2.natAbs<=50331648->(rot n p).1.natAbs<=50331648/\(rot n p).2.natAbs<=50331648:=by
   intro n p hp
   induction n with
   | zero=>exact hp
   | succ t ih=>simp only[rot];omega
  have:=R (modZ t 4).toNat (x,y) ⟨hx,hy⟩
  obtain⟨_,_,_,_,h5,h6⟩:=hs
  rw[h0]
  simp only
  omega
 refine⟨by omega,?_⟩
 exact key _ _ _ u v
theorem rad_sm{e:Ed}(h:Sml e):(radZ e).natAbs<=2097152:=by
 obtain⟨h1,h2,h3,h4,h5,h6⟩:=h
 unfold radZ
 split<;>omega
noncomputable def cT:Code:=.seq (.region 8 (opR fOn 8).toArray false) (.seq (.region 9 (opR fOn 9).toArray false) (.seq (.region 10 (opR fOn 10).toArray false) (.seq (.seq (.region 11 (opR fOn 11).toArray false) (.block 2 (.loop c2))) (.seq (.region 18 (opR fOn 18).toArray false) .ret))))
noncomputable def cO:Code:=.seq (.region 0 (opR fOn 0).toArray false) (.seq (.region 1 (opR fOn 1).toArray false) (.seq (.seq (.region 2 (opR fOn 2).toArray false) (.block 0 (.loop c1))) cT))
theorem body_on:bodyF Tryz.prog fOn=cO:=by kernel_rfl
theorem on_mid(e:Ed)(he:e.ok=true)(hs:Sml e)(w0:World)(b1:Nat)(Q:Exit->Act->World->Prop)(a:Act)(W:World)(h:InvP e w0 4 2 [(1,b1,eW e)] [] 61 a W)
  (hQ:∀a' W' b6 b7,InvP e w0 9 63 (H2 e b1 b6 b7) (U2 e) 32 a' W'->(Code.seq (.region 18 (opR fOn 18).toArray false) .ret).wp Tryz.prog Q a' W'):cT.wp Tryz.prog Q a W:=by
 unfold cT
 obtain⟨p,n,c,L,r1,r2,r3,r4,r5,r6⟩:=h.row
 obtain⟨q1,q2,q3,q4⟩:=r6 (1,b1,eW e) (List.mem_singleton.2 rfl)
 refine wp_seq (on_r8 a W _ h.sz fun a1 W1 b6 s1 d1 o1 x1 t6 f6 n6=>?_)
 refine wp_seq (on_r9 a1 W1 _ s1 fun a2 W2 b7 s2 d2 o2 x2 t7 f7 n7=>?_)
 refine wp_seq (on_r10 e he a2 W2 b1 _ s2 (((o2 1 (by kernel_rfl)).trans (o1 1 (by kernel_rfl))).trans q1) ((q2.ext x1).ext x2) fun a3 W3 s3 d3 o3 x3 t8=>?_)
 refine wp_seq (wp_seq (on_r11 a3 W3 _ s3 fun a4 W4 s4 d4 o4 x4 t9=>?_))
 have far:∀b,W.heap.size<=b->blkP p≠some b:=fun b hb q=>by have:=(r2.lt b q).2;omega
 have I:InvP e w0 9 63 (H2 e b1 b6 b7) (U2 e) 0 a4 W4:=by
  refine⟨s4,d4.trans (d3.trans (d2.trans (d1.trans h.df))),t9,Ext.step (Ext.step (Ext.step (Ext.step h.ext x1) x2) x3) x4,U2_all ((o4 8 (by kernel_rfl)).trans t8),p,n,c,L,?_,(((r2.ext x1).ext x2).ext x3).ext x4,by omega,r4,r5,H2_all ?_ ?_ ?_⟩
  ·rw[o4 3 (by kernel_rfl),o3 3 (by kernel_rfl),o2 3 (by kernel_rfl),o1 3 (by kernel_rfl)];exact r1
  ·exact⟨by rw[o4 1 (by kernel_rfl),o3 1 (by kernel_rfl),o2 1 (by kernel_rfl),o1 1 (by kernel_rfl)];exact q1,(((q2.ext x1).ext x2).ext x3).ext x4,q3,q4⟩
  ·exact⟨by rw[o4 6 (by kernel_rfl),o3 6 (by kernel_rfl),o2 6 (by kernel_rfl)];exact t6,((f6.ext x2).ext x3).ext x4,far b6 n6,by kernel_rfl⟩
  ·exact⟨by rw[o4 7 (by kernel_rfl),o3 7 (by kernel_rfl)];exact t7,(f7.ext x3).ext x4,far b7 (Nat.le_trans x1.size n7),by kernel_rfl⟩
 refine wp_block (loop_2 e he (smK hs (rad_sm hs)) w0 b1 b6 b7 _ a4 W4 I fun a5 W5 I5=>?_)
 exact hQ a5 W5 b6 b7 I5

set_option maxRecDepth 100000
section
theorem on_r0(e:Ed)(a:Act)(W:World)(Q:Exit->Act->World->Prop)(hsz:a.tmps.size=116)(h0:RepV W W (fun _=>0) 0 (edV e 3 c26) (a.tmps.getD 0 undef))
  (hQ:∀a' W' b1,a'.tmps.size=116->a'.defers=a.defers->Ext W W'->a'.tmps.getD 1 undef=ptrW b1->FqAt W' b1 (eW e)->W.heap.size<=b1->Q .normal a' W'):(Code.region 0 (opR fOn 0).toArray false).wp Tryz.prog Q a W:=by
 refine regS_wp ?_
 refine runS_ok (X:=[]) (K:=[]) (n:=116) (d:=⟨[(0,.eq (edV e 3 c26))],[]⟩) (d':=⟨[(1,.eq ⟨false,[.p 0 0]⟩)],[some ⟨27,eW e⟩]⟩) (q:=[]) (⟨(⟨false,[.p 0 0]⟩:V1)=⟨false,[.p 0 0]⟩,rfl⟩::eqI [e.k,e.ax,e.ay,e.bx,e.by',e.cx,e.cy]) (by kernel_rfl) (old_J hsz fun z hz=>?_) fun a1 W1 hJ1 ho1=>?_
 ·rw[List.mem_singleton.1 hz];exact h0
 ·obtain ⟨k1, k2, r, k3, k4⟩ := blkW hJ1
  exact hQ _ W1 (r 0) k2 rfl k1 (List.cons.inj (k3 1 ⟨false,[.p 0 0]⟩ (by kernel_rfl)).scal.2).1 (k4 0 _ rfl (by kernel_rfl)).1 (k4 0 _ rfl (by kernel_rfl)).2
theorem on_r2(a:Act)(W:World)(Q:Exit->Act->World->Prop)(hsz:a.tmps.size=116)
  (hQ:∀a' W',a'.tmps.size=116->a'.defers=a.defers->(∀t,offT (opR fOn 2) t=true->a'.tmps.getD t undef=a.tmps.getD t undef)->Ext W W'->a'.tmps.getD 4 undef=.int .i64 ((0:Nat):Int)->Q .normal a' W'):(Code.region 2 (opR fOn 2).toArray false).wp Tryz.prog Q a W:=by
 refine regS_wp ?_
 refine runS_ok (X:=[]) (K:=[]) (n:=116) (d:=⟨[],[]⟩) (d':=⟨[(4,.le (inV 0 61))],[]⟩) (q:=[]) [⟨(0:Int)=0,rfl⟩] (by kernel_rfl) (old_J hsz fun z hz=>nomatch hz) fun a1 W1 hJ1 ho1=>?_
 obtain⟨k1,k2,r,k3,k4⟩:=blkW hJ1
 exact hQ _ W1 k2 rfl ho1 k1 (rv_i.1 (k3 4 (inV 0 61) (by kernel_rfl))).2
def endL(e:Ed):List It:=[.i e.ax c26,.i e.ay c26,.i e.bx c26,.i e.by' c26]
theorem on_r1(e:Ed)(a:Act)(W:World)(b1 B:Nat)(hB:B<=W.heap.size)(Q:Exit->Act->World->Prop)(hsz:a.tmps.size=116)(h1:a.tmps.getD 1 undef=ptrW b1)(f1:FqAt W b1 (eW e))
  (hQ:∀a' W' g c,a'.tmps.size=116->a'.defers=a.defers->(∀t,offT (opR fOn 1) t=true->a'.tmps.getD t undef=a.tmps.getD t undef)->Ext W W'->a'.tmps.getD 3 undef=.slice (some ⟨g,0,none⟩) 2 c->OwnP W' B (some ⟨g,0,none⟩) 2 c [(e.ax,e.ay),(e.bx,e.by')]->W.heap.size<=g->Q .normal a' W'):(Code.region 1 (opR fOn 1).toArray false).wp Tryz.prog Q a W:=by
 refine regS_wp ?_
 refine runS_ok (X:=[]) (K:=[]) (n:=116) (d:=⟨[(1,.eq (fpW (eW e)))],[]⟩) (d':=⟨[(3,.eq ⟨false,[.sl 0 2 2]⟩)],[some ⟨25,endL e⟩]⟩) (q:=[]) (⟨(⟨false,[.sl 0 2 2]⟩:V1)=⟨false,[.sl 0 2 2]⟩,rfl⟩::eqI [e.ax,e.ay,e.bx,e.by']) (by kernel_rfl) (old_J hsz fun z hz=>?_) fun a1 W1 hJ1 ho1=>?_
 ·rw[List.mem_singleton.1 hz];show RepV _ _ _ _ (fpW (eW e)) (a.tmps.getD 1 undef);rw[h1];exact f1.rv
 ·obtain ⟨r, cm, ⟨hM, _⟩, hT⟩ := hJ1
  obtain⟨cs,e1,e2,e3⟩:=hT.2 3 (.one ⟨false,[.sl 0 2 2]⟩) (by kernel_rfl)
  obtain⟨c1,d1,rfl,⟨_,cc,xs,T,rfl,k1,k2,k3,k4⟩,rfl⟩:=e1
  obtain⟨m1,c,d,m2,m3,m4⟩:=hM.blk 0 ⟨25,endL e⟩ rfl
  obtain⟨_,_,rfl,⟨rfl,_⟩,_,_,rfl,⟨rfl,_⟩,_,_,rfl,⟨rfl,_⟩,_,_,rfl,⟨rfl,_⟩,rfl⟩:=m3
  have hl:=hM.lo 0 ⟨25,endL e⟩ rfl
  rw[k1] at m1
  cases m1
  refine hQ _ W1 (r 0) cc hT.1 rfl ho1 hM.ext e2 ⟨rfl,rfl,.inr ⟨r 0,cc,_,rfl,by omega,k1,k3,k4,k2.symm,?_⟩⟩ hl
  rw[m2];rfl
end

set_option maxRecDepth 100000
section
theorem on_ends{e:Ed}(he:e.ok=true):onE e e.ax e.ay=true/\onE e e.bx e.by'=true:=⟨end_a he,end_b he⟩
theorem on_r18(a:Act)(W:World)(p:Option Addr)(n c:Nat)(Q:Exit->Act->World->Prop)(hsz:a.tmps.size=116)(hd:a.defers=[])(h3:a.tmps.getD 3 undef=.slice p n c)
  (hQ:∀a',a'.defers=[]->a'.tmps.getD 2 undef=.slice p n c->Q .ret a' W):(Code.seq (.region 18 (opR fOn 18).toArray false) .ret).wp Tryz.prog Q a W:=by
 refine wp_seq (regS_wp ?_)
 have es:opR fOn 18=[opO fOn 18 0,opO fOn 18 1]:=by kernel_rfl
 have q0:(opO fOn 18 0).dst=some 115:=by kernel_rfl
 have q1:(opO fOn 18 1).dst=some 2:=by kernel_rfl
 have go:WpS Tryz.prog (opR fOn 18).toArray (fun a w=>Exit.then (Code.ret.wp Tryz.prog Q) Q .normal a w) [opO fOn 18 0,opO fOn 18 1] a W:=by
  refine wpS_val (x:=.slice p n c) (W:=W) (by kernel_rfl) ?_ ?_
  ·have e : (opO fOn 18 0).op = .move (.tmp 3) := by kernel_rfl
   unfold execOp
   simp only[e]
   rw[show a.eval (.tmp 3)=a.tmps.getD 3 undef from rfl,h3]
   rfl
  rw[q0]
  refine wpS_val (x:=.slice p n c) (W:=W) (by kernel_rfl) ?_ ?_
  ·have e : (opO fOn 18 1).op = .assign (.tmp 115) := by kernel_rfl
   unfold execOp
   simp only[e]
   have e55:∀v,(a.put (some 115) v).eval (.tmp 115)=v:=fun v=>by simp[Act.eval,Act.put,hsz]
   rw[e55]
   rfl
  rw[q1]
  exact wp_ret (hQ _ hd (by simp[Act.put,hsz]))
 rw[show WpS Tryz.prog (opR fOn 18).toArray (fun a w=>Exit.then (Code.ret.wp Tryz.prog Q) Q .normal a w) (opR fOn 18) a W=WpS Tryz.prog (opR fOn 18).toArray (fun a w=>Exit.then (Code.ret.wp Tryz.prog Q) Q .normal a w) [opO fOn 18 0,opO fOn 18 1] a W by rw[<- es]]
 exact go
theorem on_calls(e:Ed)(he:e.ok=true)(hs:Sml e)(w:World)(v:Value)(hv:RepV w w (fun _=>0) 0 (edV e 3 c26) v) :
  Calls Tryz.prog fOn #[v] w fun x w'=>∃p n c L,x=.returned (.slice p n c)/\OwnP w' w.heap.size p n c L/\n<=97/\(∀q∈L,onE e q.1 q.2=true)/\Ext w w':=by
 refine calls_of_wp Tryz.func8 (show _=some (bodyF Tryz.prog fOn) by kernel_rfl) ?_
 rw[body_on]
 unfold cO
 have hn:(Tryz.f8).ntmps=116:=by kernel_rfl
 rw[hn]
 refine wp_seq (on_r0 e _ w _ (by simp) (by simpa using hv) fun a0 W0 b1 s0 d0 x0 t1 f1 n1=>?_)
 refine wp_seq (on_r1 e a0 W0 b1 w.heap.size x0.size _ s0 t1 f1 fun a1 W1 g c s1 d1 o1 x1 t3 w3 n3=>?_)
 refine wp_seq (wp_seq (on_r2 a1 W1 _ s1 fun a2 W2 s2 d2 o2 x2 t4=>?_))
 obtain⟨q1,q2⟩:=on_ends he
 have hne:g≠b1:=fun h=>by have:=f1.1;omega
 have I:InvP e w 4 2 [(1,b1,eW e)] [] 0 a2 W2:=by
  refine⟨s2,d2.trans (d1.trans d0),t4,Ext.step (Ext.step x0 x1) x2,(fun x hx=>nomatch hx),some ⟨g,0,none⟩,2,c,_,(o2 3 (by kernel_rfl)).trans t3,w3.ext x2,by omega,by omega,?_,?_⟩
  ·intro q hq
   simp only[List.mem_cons,List.not_mem_nil,or_false] at hq
   rcases hq with rfl|rfl
   ·exact q1
   ·exact q2
  ·intro x hx
   rw[List.mem_singleton.1 hx]
   exact⟨by rw[o2 1 (by kernel_rfl),o1 1 (by kernel_rfl)];exact t1,(f1.ext x1).ext x2,fun h=>hne (by simpa[blkP] using h),by kernel_rfl⟩
 refine wp_block (loop_1 e he hs w b1 _ a2 W2 I fun a3 W3 I3=>?_)
 refine on_mid e he hs w b1 _ a3 W3 I3 fun a4 W4 b6 b7 I4=>?_
 obtain⟨p,n,c,L,r1,r2,r3,r4,r5,r6⟩:=I4.row
 refine on_r18 a4 W4 p n c _ I4.sz I4.df r1 fun a5 hd ht=>?_
 refine⟨hd,.slice p n c,?_,p,n,c,L,rfl,r2,by omega,r5,I4.ext⟩
 have hr:(Tryz.f8).results=#[.tmp 2]:=by kernel_rfl
 unfold results
 rw[hr]
 have ht2:a5.tmps[2]?.getD undef=Value.slice p n c:=by simpa using ht
 simp[ht2]
end
theorem abs_leP{x y:Int}(hy:0<=y)(h:x*x<=y*y) : -y<=x/\x<=y:=by
  constructor
  . rcases (show -y <= x \/ x < -y by omega) with g | g
    . exact g
    . have := Int.mul_lt_mul_of_pos_right (show y < -x by omega) (show 0 < -x by omega)
      have:=Int.mul_le_mul_of_nonneg_left (show y <= -x by omega) hy
      have e : -x * -x=x*x:=Int.neg_mul_neg ..
      omega
  . rcases (show x <= y \/ y < x by omega) with g | g
    . exact g
    . have := Int.mul_lt_mul_of_pos_right (show y < x by omega) (show 0 < x by omega)
      have:=Int.mul_le_mul_of_nonneg_left (show y<=x by omega) hy
      omega
theorem onE_arc_mk{e:Ed}{x y:Int}(ho:e.ok=true)(hk:¬e.k=1)(hq:inQ e (x-e.cx) (y-e.cy)=true)(hr:sqI (x-e.cx) (y-e.cy)=radZ e*radZ e):onE e x y=true:=by
  obtain⟨r0,hu,hv,a1,a2,a3,a4⟩:=arc_axes ho hk
  unfold onE
  rw[ho,if_neg hk]
  simp only[Bool.true_and,Bool.and_eq_true,beq_iff_eq]
  unfold sqI at hr
  obtain⟨r,R⟩:∃r,radZ e=r:=⟨_,rfl⟩
  rw[R] at a1 a2 a3 a4 hr r0
  obtain⟨p,P⟩:∃p,x-e.cx=p:=⟨_,rfl⟩
  obtain⟨q,Q⟩:∃q,y-e.cy=q:=⟨_,rfl⟩
  unfold inQ wiB at hq
  simp only[Bool.and_eq_true,Bool.not_eq_true'] at hq
  obtain⟨_,hq⟩:=hq
  rw[P,Q] at hr hq
  have hp:p*p<=r*r:=by have:=sqz_nn q;omega
  have hq2:q*q<=r*r:=by have:=sqz_nn p;omega
  have b1:=abs_leP (Int.le_of_lt r0) hp
  have b2:=abs_leP (Int.le_of_lt r0) hq2
  have m0:r*0=0:=by omega
  have m1:r*1=r:=by omega
  have m2:r * -1 = -r:=by omega
  have n0 : -(0:Int)=0:=rfl
  have n1 : -(-1:Int)=1:=rfl
  have f1:e.ax-e.cx=r*e.ux:=by omega
  have f2:e.ay-e.cy=r*e.uy:=by omega
  have f3:e.bx-e.cx=r*e.vx:=by omega
  have f4:e.by'-e.cy=r*e.vy:=by omega
  rw[f1,f2,f3,f4] at hq
  have sg:∀t:Int,0<=r*t->0<=t:=fun t h=>by
    rcases Int.lt_or_le t 0 with g|g
    . have:=Int.mul_neg_of_pos_of_neg r0 g;omega
    . exact g
  have sg1:=sg p
  have sg2:=sg q
  have sg3:=sg (-p)
  have sg4:=sg (-q)
  rw[Int.mul_neg] at sg3 sg4
  constructor
  . refine inB_iff.2 ⟨?_, ?_⟩
    all_goals
      rcases hu with⟨u1,u2⟩|⟨u1,u2⟩|⟨u1,u2⟩|⟨u1,u2⟩<;>rcases hv with⟨k0,v1,v2⟩|⟨k0,v1,v2⟩ <;>
      (rw [u1] at a1 v2 hq; rw [u2] at a2 v1 hq; rw [v1] at a3 hq; rw [v2] at a4 hq
       rw[k0] at hq
       simp only[show ¬(2:Int)=3 by decide,if_false,if_true,m0,m1,m2,n0,n1,Int.mul_zero,Int.zero_mul,Int.neg_mul,Int.mul_neg,Int.mul_one,Int.sub_zero,Int.zero_sub,Int.neg_neg,Bool.and_eq_true,decide_eq_true_eq,Int.mul_comm p r,Int.mul_comm q r] at a1 a2 a3 a4 hq
       unfold Btw
       omega)
  . unfold powerI
    rcases hu with⟨u1,u2⟩|⟨u1,u2⟩|⟨u1,u2⟩|⟨u1,u2⟩ <;>
      (rw [P, Q, f1, f2, u1, u2, hr]
       simp only[m0,m1,m2,Int.neg_mul_neg,Int.mul_zero,Int.zero_mul]
       omega)
theorem sgn_pP{x:Int}(h:0<x):sgn x=1:=by rcases sgn_cases x with⟨h,g⟩|⟨h,g⟩|⟨h,g⟩<;>omega
theorem sgn_mP{x:Int}(h:x<0):sgn x = -1:=by rcases sgn_cases x with⟨h,g⟩|⟨h,g⟩|⟨h,g⟩<;>omega
theorem side_l0P(a c:Int):sideZ a 0 c=sgn a:=by
  unfold sideZ
  rw[show sgn 0=0 from rfl,Int.zero_mul,Int.mul_zero,if_pos (Int.le_refl 0)]
  rcases sgn_cases a with⟨h,_⟩|⟨h,_⟩|⟨h,_⟩<;>rw[h]<;>decide
theorem nz0P{s n:Int}(h:n=0):nz s n=0:=by unfold nz;rw[if_pos h]
theorem nz1P{s n:Int}(h:¬n=0):nz s n=s:=by unfold nz;rw[if_neg h]
theorem gt0{a s n d:Int}(h:0<sideZ (a*d) (nz s n) (n*d)):0<cmpQ ⟨a,s,n,d⟩ (intQ 0):=by
  unfold cmpQ intQ cmpR
  simp only[Int.sub_zero]
  rw[show nz 1 0=0 from rfl,if_pos (by omega)]
  omega
theorem gt_posQ{n d:Int}(hn:0<n)(hd:0<d):0<cmpQ ⟨0,1,n,d⟩ (intQ 0):=by
  refine gt0 ?_
  have h2:0<n*d:=Int.mul_pos hn hd
  rw[Int.zero_mul,nz1P (by omega)]
  unfold sideZ
  rw[sgn_pP h2,show sgn 0=0 from rfl,show sgn 1=1 from rfl,if_pos (by decide)]
  decide
theorem gt_outQ{r n d:Int}(hr:0<=r)(hd:0<d)(h:r*r*d<n):0<cmpQ ⟨-r,1,n,d⟩ (intQ 0):=by
  have h0:0<=r*r*d:=Int.mul_nonneg (sqz_nn r) (Int.le_of_lt hd)
  rcases Int.lt_or_eq_of_le hr with h1|h1
  . refine gt0 ?_
    have h2:0<n*d:=Int.mul_pos (by omega) hd
    have h3:0<r*d:=Int.mul_pos h1 hd
    have h4:r*r*d*d<n*d:=Int.mul_lt_mul_of_pos_right h hd
    rw[nz1P (by omega),Int.neg_mul]
    unfold sideZ
    rw[sgn_mP (show -(r*d)<0 by omega),sgn_pP h2,show sgn 1=1 from rfl,if_neg (by decide),Int.neg_mul_neg,Int.one_mul,Int.one_mul]
    have e:r*d*(r*d)=r*r*d*d:=by grind
    unfold cmpZ
    rw[if_pos (by omega)]
    decide
  . subst h1
    exact gt_posQ (by omega) hd
theorem gt_inQ{r n:Int}(hr:0<r)(hn:0<=n)(h:n<r*r):0<cmpQ ⟨r,-1,n,1⟩ (intQ 0):=by
  refine gt0 ?_
  rw[Int.mul_one,Int.mul_one]
  by_cases h0:n=0
  . rw[nz0P h0,side_l0P,sgn_pP hr];decide
  . rw [nz1P h0]
    unfold sideZ
    rw[sgn_pP hr,sgn_pP (show 0<n by omega),show sgn (-1) = -1 from rfl,if_neg (by decide),Int.neg_mul_neg,Int.one_mul,Int.one_mul,Int.one_mul]
    unfold cmpZ
    rw[if_neg (by omega),if_neg (by omega)]
    decide
theorem end_gt{e:Ed}{x y a b:Int}(h:onE e x y=false)(ha:onE e a b=true):0<cmpQ (endQ x y a b) (intQ 0):=by
  refine gt_posQ (sqI_pos fun ⟨g1,g2⟩=>?_) (by decide)
  rw[show x=a by omega,show y=b by omega,ha] at h
  cases h
theorem between{a b p x y u v t q:Int}(hq:u*u+v*v=q)(hc:u*y-v*x=0)(ht:x*u+y*v=t)(t0:0<t)(t1:t<q)(ha:u=b-a)(hp:x=p-a):Btw a p b:=by
  have e1:q*x=t*u:=by subst hq ht;grind
  unfold Btw
  rcases Int.lt_trichotomy u 0 with h|h|h
  . have h1 : t * u < 0 := Int.mul_neg_of_pos_of_neg t0 h
    have h2:x<0:=by
      rcases Int.lt_or_le x 0 with g|g
      . exact g
      . have:=Int.mul_nonneg (show 0<=q by omega) g;omega
    have h3:u<=x:=by
      rcases Int.lt_or_le x u with g|g
      . have k1 := Int.mul_lt_mul_of_pos_left g (show 0 < q by omega)
        have k2:q*u<=t*u:=Int.mul_le_mul_of_nonpos_right (by omega) (by omega)
        omega
      . exact g
    omega
  . have : q * x = 0 := by rw [e1, h, Int.mul_zero]
    have:x=0:=by rcases Int.mul_eq_zero.1 this with g|g<;>omega
    omega
  . have h1 : 0 < t * u := Int.mul_pos t0 h
    have h2:0<x:=by
      rcases Int.lt_or_le 0 x with g|g
      . exact g
      . have:=Int.mul_nonpos_of_nonneg_of_nonpos (show 0<=q by omega) g;omega
    have h3:x<=u:=by
      rcases Int.lt_or_le u x with g|g
      . have k1 := Int.mul_lt_mul_of_pos_left g (show 0 < q by omega)
        have k2:t*u<=q*u:=Int.mul_le_mul_of_nonneg_right (by omega) (by omega)
        omega
      . exact g
    omega
theorem point_gt{e:Ed}{x y:Int}(ho:e.ok=true)(h:onE e x y=false):0<cmpQ (pointQ e x y) (intQ 0):=by
  unfold pointQ
  by_cases hk:e.k=1
  . rw [if_pos hk]
    unfold lineQ
    split
    . exact end_gt h (end_a ho)
    split
    . exact end_gt h (end_b ho)
    . rename_i h1 h2
      refine gt_posQ ?_ (by omega)
      have:=sqz_nn ((e.bx-e.ax)*(y-e.ay)-(e.by'-e.ay)*(x-e.ax))
      rcases Int.lt_or_eq_of_le this with g|g
      . exact g
      . exfalso
        have hc:(e.bx-e.ax)*(y-e.ay)-(e.by'-e.ay)*(x-e.ax)=0:=by rcases Int.mul_eq_zero.1 g.symm with g|g<;>exact g
        have b1:=between (a:=e.ax) (b:=e.bx) (p:=x) rfl hc rfl (by omega) (Int.not_le.1 h2) rfl rfl
        have b2:=between (a:=e.ay) (b:=e.by') (p:=y) (u:=e.by'-e.ay) (v:=e.bx-e.ax) (x:=y-e.ay) (y:=x-e.ax) (t:=(x-e.ax)*(e.bx-e.ax)+(y-e.ay)*(e.by'-e.ay)) (q:=sqI (e.bx-e.ax) (e.by'-e.ay)) (by unfold sqI;omega) (by omega) (by omega) (by omega) (by omega) rfl rfl
        rw[onE_line_mk hk ho b1 b2 (by omega)] at h
        cases h
  . rw [if_neg hk]
    have hr:=rad_pos ho hk
    unfold arcQ
    split
    . rename_i hq
      have hn:¬sqI (x-e.cx) (y-e.cy)=radZ e*radZ e:=fun g=>by rw[onE_arc_mk ho hk hq g] at h;cases h
      split
      . exact gt_outQ (Int.le_of_lt hr) (by decide) (by omega)
      . exact gt_inQ hr (sqI_nn _ _) (by omega)
    split
    . exact end_gt h (end_b ho)
    . exact end_gt h (end_a ho)
theorem foot_gt(l:Ed){a:Ed}(ha:a.ok=true)(hk:¬a.k=1):∀z∈footQ l a,0<cmpQ z (intQ 0):=by
  intro z hz
  by_cases h:((a.cx-l.ax)*(l.bx-l.ax)+(a.cy-l.ay)*(l.by'-l.ay)<=0\/sqI (l.bx-l.ax) (l.by'-l.ay)<=(a.cx-l.ax)*(l.bx-l.ax)+(a.cy-l.ay)*(l.by'-l.ay)\/((l.bx-l.ax)*(a.cy-l.ay)-(l.by'-l.ay)*(a.cx-l.ax))*((l.bx-l.ax)*(a.cy-l.ay)-(l.by'-l.ay)*(a.cx-l.ax))<=radZ a*radZ a*sqI (l.bx-l.ax) (l.by'-l.ay)\/inQ a (if 0<(l.bx-l.ax)*(a.cy-l.ay)-(l.by'-l.ay)*(a.cx-l.ax) then l.by'-l.ay else -(l.by'-l.ay)) (if 0<(l.bx-l.ax)*(a.cy-l.ay)-(l.by'-l.ay)*(a.cx-l.ax) then -(l.bx-l.ax) else l.bx-l.ax)=false)
  . rw[show footQ l a=[] from if_pos h] at hz;cases hz
  . rw [show footQ l a = [⟨-radZ a, 1, ((l.bx - l.ax) * (a.cy - l.ay) - (l.by' - l.ay) * (a.cx - l.ax)) * ((l.bx - l.ax) * (a.cy - l.ay) - (l.by' - l.ay) * (a.cx - l.ax)), sqI (l.bx - l.ax) (l.by' - l.ay)⟩] from if_neg h] at hz
    simp only[not_or,Int.not_le] at h
    obtain⟨h1,h2,h3,_⟩:=h
    simp only[List.mem_cons,List.not_mem_nil,or_false] at hz
    subst hz
    exact gt_outQ (Int.le_of_lt (rad_pos ha hk)) (by omega) h3
theorem cent_gt{a b:Ed}(ha:a.ok=true)(hb:b.ok=true)(hk:¬a.k=1)(gk:¬b.k=1):∀z∈centQ a b,0<cmpQ z (intQ 0):=by
  intro z hz
  have r1:=rad_pos ha hk
  have r2:=rad_pos hb gk
  have hn:=sqI_nn (b.cx-a.cx) (b.cy-a.cy)
  unfold centQ at hz
  simp only at hz
  generalize sqI (b.cx-a.cx) (b.cy-a.cy)=n at *
  split at hz
  . rename_i h1
    split at hz
    . simp only [List.mem_cons, List.not_mem_nil, or_false] at hz
      subst hz
      rw[show -radZ a-radZ b = -(radZ a+radZ b) by omega]
      exact gt_outQ (by omega) (by decide) (by omega)
    . cases hz
  split at hz
  . cases hz
  rename_i h1 h2
  split at hz
  . rename_i h3
    split at hz
    . simp only [List.mem_cons, List.not_mem_nil, or_false] at hz
      subst hz
      exact gt_inQ (by omega) hn (by omega)
    . cases hz
  . rename_i h3
    have h4:¬radZ a=radZ b:=fun h=>by rw[h] at h2;simp at h2;omega
    split at hz
    . simp only [List.mem_cons, List.not_mem_nil, or_false] at hz
      subst hz
      have e:(radZ b-radZ a)*(radZ b-radZ a)=(radZ a-radZ b)*(radZ a-radZ b):=by grind
      exact gt_inQ (by omega) hn (by omega)
    . cases hz
theorem least_gt{a b:Ed}(ha:a.ok=true)(hb:b.ok=true)(hc:countE a b=0):0<cmpQ (leastQ (candQ a b)) (intQ 0):=by
  have off:∀x y,onE a x y=true->onE b x y=false:=fun x y h=>by
    cases g:onE b x y with
    | false=>rfl
    | true=>exact absurd hc (common_point h g)
  have off':∀x y,onE b x y=true->onE a x y=false:=fun x y h=>by
    cases g:onE a x y with
    | false=>rfl
    | true=>exact absurd hc (common_point g h)
  have hm:=leastQ_mem (candQ_ne a b)
  revert hm
  generalize leastQ (candQ a b)=z
  intro hm
  unfold candQ at hm
  simp only[List.cons_append,List.nil_append,List.mem_cons] at hm
  rcases hm with rfl|rfl|rfl|rfl|hm
  . exact point_gt hb (off _ _ (end_a ha))
  . exact point_gt hb (off _ _ (end_b ha))
  . exact point_gt ha (off' _ _ (end_a hb))
  . exact point_gt ha (off' _ _ (end_b hb))
  . unfold innerQ at hm
    split at hm
    . split at hm
      . cases hm
      . exact foot_gt a hb (by assumption) _ hm
    . split at hm
      . exact foot_gt b ha (by assumption) _ hm
      . exact cent_gt ha hb (by assumption) (by assumption) _ hm
end Go.Proofs.YtcfpcafnjgpfdaaGreat
