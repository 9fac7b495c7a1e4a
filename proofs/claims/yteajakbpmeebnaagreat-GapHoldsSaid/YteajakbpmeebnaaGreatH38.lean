import Derived.Test.YteajakbpmeebnaaGreatH37
set_option linter.unusedVariables false
set_option linter.unusedSimpArgs false

namespace Go.Proofs.YteajakbpmeebnaaGreat
open Go.RowKit
theorem allB_cg{p q:Nat->Bool}:∀ {n:Nat},(∀k,k<n->p k=q k)->allB p n=allB q n
 | 0,_=>rfl
 | n+1,h=>by
  unfold allB
  rw[allB_cg fun k hk=>h k (by omega),h n (Nat.lt_succ_self n)]
theorem box_mv{a b c d x y:Int}{E E':Nat->Ed}(hi:IsoOk a b c d):∀ {m:Nat},(∀i,i<=m->Mvd a b c d x y (E i) (E' i)) ->
  x0N E' m=(if b=0 then (if a=1 then x0N E m else -x1N E m) else if b=1 then y0N E m else -y1N E m)+x/\x1N E' m=(if b=0 then (if a=1 then x1N E m else -x0N E m) else if b=1 then y1N E m else -y0N E m)+x /\
  y0N E' m=(if c=0 then (if d=1 then y0N E m else -y1N E m) else if c=1 then x0N E m else -x1N E m)+y/\y1N E' m=(if c=0 then (if d=1 then y1N E m else -y0N E m) else if c=1 then x1N E m else -x0N E m)+y
 | 0,hM=>by
  have h:=hM 0 (Nat.le_refl _)
  unfold x0N x1N y0N y1N
  rw[h.ax,h.ay,h.bx,h.by']
  rcases hi with⟨rfl,rfl,rfl|rfl,rfl|rfl⟩|⟨rfl,rfl,rfl|rfl,rfl|rfl⟩<;>simp<;>omega
 | m+1,hM=>by
  obtain⟨k1,k2,k3,k4⟩:=box_mv hi (m:=m) fun i hm=>hM i (by omega)
  have h:=hM (m+1) (Nat.le_refl _)
  unfold x0N x1N y0N y1N
  rw[h.ax,h.ay,h.bx,h.by',k1,k2,k3,k4]
  rcases hi with⟨rfl,rfl,rfl|rfl,rfl|rfl⟩|⟨rfl,rfl,rfl|rfl,rfl|rfl⟩<;>simp<;>omega
theorem inBx_eq{s:Sh}(h:OkS s)(px py:Int):inBx s px py=(decide (x0N s.e (s.n-1)-s.r<=px)&&decide (px<=x1N s.e (s.n-1)+s.r)&&(decide (y0N s.e (s.n-1)-s.r<=py)&&decide (py<=y1N s.e (s.n-1)+s.r))):=by
 have hn:1<=s.n:=by have:=h.n0;unfold fewS at this;split at this<;>omega
 obtain⟨h1,h2,h3,h4⟩:=bx_bd (e:=s.e) (m:=s.n-1) fun k hk=>h.ok k (by omega)
 have hr:=h.r.1
 unfold inBx inB bX0 bY0 bX1 bY1
 rw[if_neg (by omega),if_neg (by omega),if_neg (by omega),if_neg (by omega),wrap_in (by unfold I64;omega),wrap_in (by unfold I64;omega),wrap_in (by unfold I64;omega),wrap_in (by unfold I64;omega)]
 rw[Bool.eq_iff_iff]
 simp only[Bool.and_eq_true,decide_eq_true_eq]
 omega
theorem moved2(x y t:Int)(m:Bool)(ht:0<=t/\t<=3):∃a b c d,IsoOk a b c d/\(∀px py,applyP x y t m px py=(a*px+b*py+x,c*px+d*py+y))/\∀e:Ed,e.ok=true->(moveE e x y t m).ok=true->Mvd a b c d x y e (moveE e x y t m):=by
 obtain⟨a,b,c,d,hi,h⟩:=applyP_iso x y t m ht
 refine⟨a,b,c,d,hi,h,fun e h1 h2=>⟨hi,h1,h2,?_,?_,?_,?_,?_,?_,?_⟩⟩
 ·show (if m then (fam e.k).k else e.k) = 1 <-> _
  cases m
  ·exact Iff.rfl
  ·exact rev_k1 h1
 ·show (applyP x y t m e.ax e.ay).1=_;rw[h]
 ·show (applyP x y t m e.ax e.ay).2=_;rw[h]
 ·show (applyP x y t m e.bx e.by').1=_;rw[h]
 ·show (applyP x y t m e.bx e.by').2=_;rw[h]
 ·intro hk
  show (if e.k=1 then e.cx else (applyP x y t m e.cx e.cy).1)=_
  rw[if_neg hk,h]
 ·intro hk
  show (if e.k=1 then e.cy else (applyP x y t m e.cx e.cy).2)=_
  rw[if_neg hk,h]
theorem insS_ok{s:Sh}(h:OkS s)(px py:Int):insS s px py=if inBx s px py=false then false else if allB (farB s px py) s.n=false then true else decide (s.k=2)&&decide (wnd s.e px py s.n≠0):=by
 unfold insS
 rw[if_neg (by simpa using h.chk)]
theorem ins_mv{s:Sh}{x y t:Int}{m:Bool}(hs:OkS s)(hs':OkS (movS s x y t m))(px py:Int):insS (movS s x y t m) (applyP x y (modZ t 4) m px py).1 (applyP x y (modZ t 4) m px py).2=insS s px py:=by
 obtain⟨a,b,c,d,hi,hp,hE⟩:=moved2 x y (modZ t 4) m (by have:=modZ_bd t (m:=4) (by omega);omega)
 have hn:1<=s.n:=by have:=hs.n0;unfold fewS at this;split at this<;>omega
 have hM:∀i,i<s.n->Mvd a b c d x y (s.e i) ((movS s x y t m).e i):=fun i hi'=>hE _ (hs.ok i hi') (hs'.ok i hi')
 rw[hp]
 rw[insS_ok hs',insS_ok hs]
 have hb:inBx (movS s x y t m) (a*px+b*py+x) (c*px+d*py+y)=inBx s px py:=by
  rw[inBx_eq hs',inBx_eq hs]
  obtain⟨k1,k2,k3,k4⟩:=box_mv hi (E:=s.e) (E':=(movS s x y t m).e) (m:=s.n-1) fun i h=>hM i (by omega)
  show (decide (x0N (movS s x y t m).e (s.n-1)-s.r<=_)&&decide (_<=x1N (movS s x y t m).e (s.n-1)+s.r)&&(decide (y0N (movS s x y t m).e (s.n-1)-s.r<=_)&&decide (_<=y1N (movS s x y t m).e (s.n-1)+s.r)))=_
  rw[k1,k2,k3,k4,Bool.eq_iff_iff]
  simp only[Bool.and_eq_true,decide_eq_true_eq]
  rcases hi with⟨rfl,rfl,rfl|rfl,rfl|rfl⟩|⟨rfl,rfl,rfl|rfl,rfl|rfl⟩<;>simp<;>omega
 have hf:allB (farB (movS s x y t m) (a*px+b*py+x) (c*px+d*py+y)) (movS s x y t m).n=allB (farB s px py) s.n:=by
  show allB _ s.n=_
  exact allB_cg fun k hk=>by unfold farB;rw[near_mv (hM k hk)];rfl
 simp only[hb,hf]
 cases h1:inBx s px py with
 | false=>rfl
 | true =>
  cases h2:allB (farB s px py) s.n with
  | false=>rfl
  | true =>
   simp only[Bool.true_eq_false,if_false]
   show (decide (s.k=2)&&_)=_
   by_cases hk:s.k=2
   ·have off:∀i,i<=s.n-1->onE (s.e i) px py=false:=fun i h=>by
     have:=allB_t.1 h2 i (by omega)
     unfold farB at this
     cases hg:onE (s.e i) px py with
     | false=>rfl
     | true=>rw[near_on hs.r.1.1 hg] at this;cases this
    have w:=wnd_mv (E:=s.e) (E':=(movS s x y t m).e) (px:=px) (py:=py) (n:=s.n-1) (fun i h=>hM i (by omega)) off (fun i h=>hs.ch i (by omega))
    obtain⟨c1,c2⟩:=hs.cl hk
    rw[show s.n-1+1=s.n by omega,c1,c2] at w
    have w':wnd (movS s x y t m).e (a*px+b*py+x) (c*px+d*py+y) (movS s x y t m).n=(a*d-b*c)*wnd s.e px py s.n:=by
     show wnd _ _ _ s.n=_
     rw[w];omega
    rw[w',decide_eq_true hk]
    congr 1
    have:=det_iso hi
    rcases this with g|g<;>rw[g]<;>refine decide_eq_decide.2 ?_<;>omega
   ·rw[decide_eq_false hk];rfl

section
theorem gap_least{c:Nat->Pr}{f:Nat->Q4}:∀k,0<k->(∀i,i<k->(f i).ok/\(c i).d=(f i).rt)->∃i,i<k/\gapK c k=(c i).gp/\∀j,j<k->cmpQ (f i) (f j)<=0
 | 0,h,_=>absurd h (Nat.lt_irrefl _)
 | k+1,_,H=>by
  have okk:=(H k (by omega)).1
  by_cases hk:k=0
  ·subst hk
   refine⟨0,by omega,by unfold gapK;simp,fun j hj=>?_⟩
   rw[show j=0 by omega,cmpQ_self okk];exact Int.le_refl 0
  obtain⟨i,hi,e,hl⟩:=gap_least k (by omega) fun i hi=>H i (by omega)
  have oki:=(H i (by omega)).1
  have hc:cmpRt (c k).d (gapK c k).d=cmpQ (f k) (f i):=by
   rw[e,(H k (by omega)).2,show ((c i).gp).d=(c i).d from rfl,(H i (by omega)).2,cmpQ_rt okk oki]
  unfold gapK
  rw[hc]
  split
  ·rename_i h
   have h':cmpQ (f k) (f i)<0:=by simpa[hk] using h
   refine⟨k,by omega,rfl,fun j hj=>?_⟩
   rcases Nat.lt_or_ge j k with g|g
   ·exact cmpQ_trans okk oki (H j (by omega)).1 (Int.le_of_lt h') (hl j g)
   ·rw[show j=k by omega,cmpQ_self okk];exact Int.le_refl 0
  ·rename_i h
   have h':¬cmpQ (f k) (f i)<0:=by simpa[hk] using h
   refine⟨i,by omega,e,fun j hj=>?_⟩
   rcases Nat.lt_or_ge j k with g|g
   ·exact hl j g
   ·rw[show j=k by omega,cmpQ_anti okk oki];omega
theorem sep_all{a b:Sh}(hb:0<b.n):allB (sep a b) (a.n*b.n)=true <-> ∀i,i<a.n->∀j,j<b.n->countE (a.e i) (b.e j)=0:=by
 rw[allB_t]
 constructor
 ·intro h i hi j hj
  have hk:i*b.n+j<a.n*b.n:=by
   have:=Nat.mul_le_mul_right b.n (show i+1<=a.n by omega)
   rw[Nat.succ_mul] at this
   omega
  have:=h _ hk
  unfold sep at this
  rw[Nat.mul_comm i,Nat.mul_add_div hb,Nat.mul_add_mod,Nat.div_eq_of_lt hj,Nat.mod_eq_of_lt hj] at this
  simpa using this
 ·intro h k hk
  unfold sep
  rw[h _ ((Nat.div_lt_iff_lt_mul hb).2 hk) _ (Nat.mod_lt _ hb)]
  rfl
def pQ(a b:Sh)(i:Nat):Q4:=leastQ (candQ (a.e (i/b.n)) (b.e (i%b.n)))
theorem far_sep{a b:Sh}(h:metB a b=false):allB (sep a b) (a.n*b.n)=true:=by
 unfold metB at h
 simp only[Bool.or_eq_false_iff,Bool.not_eq_false'] at h
 exact h.2
theorem pQ_ok{a b:Sh}(ha:OkS a)(hb:OkS b)(hm:metB a b=false){i:Nat}(hi:i<a.n*b.n):(pQ a b i).ok/\(cnd a b i).d=(pQ a b i).rt:=by
 have hbn:=n_pos hb
 have i1:i/b.n<a.n:=(Nat.div_lt_iff_lt_mul hbn).2 hi
 have i2:i%b.n<b.n:=Nat.mod_lt _ hbn
 have oa:=ha.ok _ i1
 have ob:=hb.ok _ i2
 exact⟨candQ_ok oa ob _ (leastQ_mem (candQ_ne _ _)),edgesR_Q oa ob ((sep_all hbn).1 (far_sep hm) _ i1 _ i2)⟩
theorem core_l{a b:Sh}(ha:OkS a)(hb:OkS b)(hm:metB a b=false):∃i,i<a.n/\∃j,j<b.n/\CoreQ a b (leastQ (candQ (a.e i) (b.e j)))/\∀p,p<a.n->∀q,q<b.n->cmpQ (leastQ (candQ (a.e i) (b.e j))) (leastQ (candQ (a.e p) (b.e q)))<=0:=by
 have hbn:=n_pos hb
 have hn:0<a.n*b.n:=Nat.mul_pos (n_pos ha) hbn
 obtain⟨k,hk,hg,hl⟩:=gap_least (c:=cnd a b) (f:=pQ a b) (a.n*b.n) hn fun i hi=>pQ_ok ha hb hm hi
 have i1:k/b.n<a.n:=(Nat.div_lt_iff_lt_mul hbn).2 hk
 have i2:k%b.n<b.n:=Nat.mod_lt _ hbn
 have oa:=ha.ok _ i1
 have ob:=hb.ok _ i2
 have hc:=(sep_all hbn).1 (far_sep hm) _ i1 _ i2
 have hmem:=leastQ_mem (candQ_ne (a.e (k/b.n)) (b.e (k%b.n)))
 refine⟨_,i1,_,i2,⟨candQ_ok oa ob _ hmem,cand_a oa ob _ hmem,fun h=>(by rw[hm] at h;cases h),fun _=>⟨least_gt oa ob hc,by rw[hg];exact (pQ_ok ha hb hm hk).2,by rw[hg];rfl⟩⟩,fun p hp q hq=>?_⟩
 have hk2:p*b.n+q<a.n*b.n:=by
  have:=Nat.mul_le_mul_right b.n (show p+1<=a.n by omega)
  rw[Nat.succ_mul] at this
  omega
 have:=hl _ hk2
 unfold pQ at this
 rw[Nat.mul_comm p,Nat.mul_add_div hbn,Nat.mul_add_mod,Nat.div_eq_of_lt hq,Nat.mod_eq_of_lt hq] at this
 exact this
section
variable {a b:Sh} {x y t:Int} {m:Bool}
theorem bord_ok(h:OkS a)(hk:a.k=2):OkS (bordS a):=by
 have hn:=n_pos h
 refine⟨.inl rfl,?_,h.n1,h.ok,h.ch,fun g=>(by cases g),⟨⟨Int.le_refl 0,show (0:Int)<=4194304 by decide⟩,fun _=>rfl⟩⟩
 unfold fewS bordS
 simp only
 split<;>simp_all<;>omega
end
end

set_option maxHeartbeats 4000000
section
theorem near0{e:Ed}{x y:Int}(ho:e.ok=true)(h:onE e x y=false):nearC e x y 0=false:=by
 have hz:∀u v:Int,(x-u)*(x-u)+(y-v)*(y-v)<=0->x=u/\y=v:=fun u v g=>by
  have:=sqz_nn (x-u);have:=sqz_nn (y-v)
  constructor
  ·rcases Int.mul_eq_zero.1 (show (x-u)*(x-u)=0 by omega) with f|f<;>omega
  ·rcases Int.mul_eq_zero.1 (show (y-v)*(y-v)=0 by omega) with f|f<;>omega
 unfold nearC frZ
 rw[if_neg,if_neg]
 ·by_cases hk : e.k = 1
  ·rw [if_pos hk]
   unfold alZ loZ crZ
   split
   ·rfl
   split
   ·rfl
   ·rename_i h1 h2
    refine decide_eq_false fun g=>?_
    have c0:(e.bx-e.ax)*(y-e.ay)-(e.by'-e.ay)*(x-e.ax)=0:=by
     obtain⟨c,hc⟩:∃c,(e.bx-e.ax)*(y-e.ay)-(e.by'-e.ay)*(x-e.ax)=c:=⟨_,rfl⟩
     rw[hc] at g ⊢
     have:=sqz_nn c
     rcases Int.mul_eq_zero.1 (show c*c=0 by omega) with f|f<;>exact f
    have:=mid_on hk ho (by omega) (by unfold sqI;omega) c0
    rw[h] at this;cases this
  ·rw [if_neg hk]
   split
   ·rename_i hw
    split
    ·rename_i h1
     refine decide_eq_false fun h2=>?_
     have r0:=rad_pos ho hk
     have rr:=Int.mul_pos r0 r0
     rw[Int.add_zero] at h1
     rw[show max (radZ e-0) 0=radZ e by omega] at h2
     rcases (wi_inQ e x y).1 hw with⟨z1,z2⟩|hq
     ·rw[z1,z2] at h2;omega
     ·have := onE_arc_mk ho hk hq (by unfold sqI; omega)
      rw[h] at this;cases this
    ·rfl
   ·rfl
 ·intro g
  obtain⟨rfl,rfl⟩:=hz e.bx e.by' (by omega)
  rw[end_b ho] at h;cases h
 ·intro g
  obtain⟨rfl,rfl⟩:=hz e.ax e.ay (by omega)
  rw[end_a ho] at h;cases h
theorem x0_le{e:Nat->Ed}:∀ {m k:Nat},k<=m->x0N e m<=min (e k).ax (e k).bx/\y0N e m<=min (e k).ay (e k).by'/\max (e k).ax (e k).bx<=x1N e m/\max (e k).ay (e k).by'<=y1N e m
 | 0,k,h=>by
  obtain rfl:k=0:=by omega
  unfold x0N y0N x1N y1N;omega
 | m+1,k,h=>by
  unfold x0N y0N x1N y1N
  rcases Nat.lt_or_ge k (m+1) with g|g
  ·have:=x0_le (e:=e) (show k<=m by omega);omega
  ·obtain rfl : k = m + 1 := by omega
   omega
theorem wnd_left{e:Nat->Ed}{x y:Int}:∀ {m:Nat},(∀k,k<=m->x<min (e k).ax (e k).bx)->(∀k,k+1<=m->(e (k+1)).ay=(e k).by')->wnd e x y (m+1)=(if (e 0).ay<=y then 1 else 0)-(if (e m).by'<=y then 1 else 0)
 | 0,h,_=>by
  have b:beyZ (e 0) x y=true:=by unfold beyZ;exact if_pos (h 0 (Nat.le_refl _))
  unfold wnd wnd rayZ
  rw[b]
  simp only[and_true]
  (repeat' split)<;>omega
 | m+1,h,ch=>by
  have ih:=wnd_left (y:=y) (m:=m) (fun k hk=>h k (by omega)) (fun k hk=>ch k (by omega))
  have b:beyZ (e (m+1)) x y=true:=by unfold beyZ;exact if_pos (h (m+1) (Nat.le_refl _))
  have c:=ch m (Nat.le_refl _)
  show wnd e x y (m+1)+rayZ (e (m+1)) x y=_
  rw[ih]
  unfold rayZ
  rw[b]
  simp only[and_true]
  rw[c]
  (repeat' split)<;>omega
theorem wnd_some{e:Nat->Ed}{x y:Int}:∀ {n:Nat},¬wnd e x y n=0->∃k,k<n/\¬rayZ (e k) x y=0
 | 0,h=>absurd rfl h
 | n+1,h=>by
  by_cases g:rayZ (e n) x y=0
  ·have h' : ¬ wnd e x y n = 0 := fun f => h (by unfold wnd; omega)
   obtain⟨k,hk,hr⟩:=wnd_some h'
   exact⟨k,by omega,hr⟩
  ·exact⟨n,by omega,g⟩
theorem bx_eq{s:Sh}(h:OkS s)(h2:s.k=2):bX0 s=x0N s.e (s.n-1)/\bY0 s=y0N s.e (s.n-1)/\bX1 s=x1N s.e (s.n-1)/\bY1 s=y1N s.e (s.n-1):=by
 obtain⟨h1,h3,h4,h5⟩:=bx_bd (e:=s.e) (m:=s.n-1) fun k hk=>h.ok k (by have:=n_pos h;omega)
 have n0:¬s.n=0:=by have:=n_pos h;omega
 have hr:=h.r.2 h2
 unfold bX0 bY0 bX1 bY1
 simp only[if_neg n0,hr,Int.sub_zero,Int.add_zero]
 refine⟨?_,?_,?_,?_⟩<;>exact wrap_in (by unfold I64;omega)
theorem ins_off{s:Sh}(h:OkS s)(h2:s.k=2){x y:Int}(off:∀i,i<s.n->onE (s.e i) x y=false):insS s x y=true <-> ¬wnd s.e x y s.n=0:=by
 have hn:=n_pos h
 have far:allB (farB s x y) s.n=true:=allB_t.2 fun k hk=>by
  unfold farB
  rw[h.r.2 h2,near0 (h.ok k hk) (off k hk)];rfl
 have hb:¬wnd s.e x y s.n=0->inBx s x y=true:=fun hw=>by
  obtain⟨k,hk,hr⟩:=wnd_some hw
  obtain⟨e1,e2,e3,e4⟩:=bx_eq h h2
  have l:=x0_le (e:=s.e) (m:=s.n-1) (k:=k) (by omega)
  have g1:¬(y<min (s.e k).ay (s.e k).by'\/y >= max (s.e k).ay (s.e k).by'\/x >= max (s.e k).ax (s.e k).bx):=fun g=>hr (rayZ_out g)
  have g2:x0N s.e (s.n-1)<=x:=by
   rcases Int.lt_or_le x (x0N s.e (s.n-1)) with g|g
   ·exfalso
    have:=wnd_left (e:=s.e) (x:=x) (y:=y) (m:=s.n-1) (fun k hk=>by have:=x0_le (e:=s.e) (m:=s.n-1) hk;omega) (fun k hk=>(h.ch k (by omega)).2)
    rw[show s.n-1+1=s.n by omega,(h.cl h2).2] at this
    omega
   ·exact g
  unfold inBx
  rw[e1,e2,e3,e4]
  unfold inB
  simp only[Bool.and_eq_true,decide_eq_true_eq]
  omega
 unfold insS
 rw[if_neg (fun g=>g h.chk)]
 by_cases hw:wnd s.e x y s.n=0
 ·rw [hw, far]
  simp
 ·rw [hb hw, far, h2]
  simp[hw]
theorem far_right{s:Sh}(h:OkS s)(h2:s.k=2){x y D:Int}(off:∀i,i<s.n->onE (s.e i) x y=false)(hi:insS s x y=true)(hD:0<=D)(hd:∀i,i<s.n->0<=cmpQ (pointQ (s.e i) x y) (intQ D)):∃i,i<s.n/\D<=max (s.e i).ax (s.e i).bx-x:=by
 obtain⟨k,hk,hr⟩:=wnd_some ((ins_off h h2 off).1 hi)
 exact⟨k,hk,far_edge (h.ok k hk) (off k hk) hr hD (hd k hk)⟩
theorem apply_0(x y:Int):applyP 0 0 0 false x y=(x,y):=by unfold applyP mir;simp[rot]
theorem apply_1(x y:Int):applyP 0 0 1 false x y=(-y,x):=by
 show ((rot 1 (mir false (x,y))).1+0,(rot 1 (mir false (x,y))).2+0)=_
 unfold mir;simp[rot]
theorem apply_2(x y:Int):applyP 0 0 2 false x y=(-x,-y):=by
 show ((rot 2 (mir false (x,y))).1+0,(rot 2 (mir false (x,y))).2+0)=_
 unfold mir;simp[rot]
theorem apply_3(x y:Int):applyP 0 0 3 false x y=(y,-x):=by
 show ((rot 3 (mir false (x,y))).1+0,(rot 3 (mir false (x,y))).2+0)=_
 unfold mir;simp[rot]
theorem far_box{s:Sh}(hf:FineS s)(h2:s.k=2){x y D:Int}(off:∀i,i<s.n->onE (s.e i) x y=false)(hi:insS s x y=true)(hD:0<=D)(hd:∀i,i<s.n->0<=cmpQ (pointQ (s.e i) x y) (intQ D)) :
  x0N s.e (s.n-1)+D<=x/\y0N s.e (s.n-1)+D<=y/\x+D<=x1N s.e (s.n-1)/\y+D<=y1N s.e (s.n-1):=by
 have h:=hf.1
 have turn:∀t:Int,modZ t 4=t->0<=t/\t<=3->∃i,i<s.n/\D<=max (applyP 0 0 t false (s.e i).ax (s.e i).ay).1 (applyP 0 0 t false (s.e i).bx (s.e i).by').1-(applyP 0 0 t false x y).1:=fun t ht hb=>by
  have h':=mov_ok hf (x:=0) (y:=0) t false (by omega) (by omega)
  obtain⟨a,b,c,d,hi',hp,hE⟩:=moved2 0 0 (modZ t 4) false (by rw[ht];exact hb)
  have hM:∀i,i<s.n->Mvd a b c d 0 0 (s.e i) ((movS s 0 0 t false).e i):=fun i hi'=>hE _ (h.ok i hi') (h'.ok i hi')
  have hI:=ins_mv h h' x y
  rw[hi] at hI
  have:=far_right h' h2 (x:=(applyP 0 0 (modZ t 4) false x y).1) (y:=(applyP 0 0 (modZ t 4) false x y).2) (D:=D) (fun i hi'=>by rw[hp];show onE _ (a*x+b*y+0) (c*x+d*y+0)=false;rw[(hM i hi').on];exact off i hi') hI hD (fun i hi'=>by rw[hp];show 0<=cmpQ (pointQ _ (a*x+b*y+0) (c*x+d*y+0)) _;rw[(hM i hi').pointQ];exact hd i hi')
  obtain⟨i,hi1,hi2⟩:=this
  rw[ht] at hi2
  refine⟨i,hi1,?_⟩
  have e1:((movS s 0 0 t false).e i).ax=(applyP 0 0 t false (s.e i).ax (s.e i).ay).1:=by
   show (applyP 0 0 (modZ t 4) false (s.e i).ax (s.e i).ay).1=_;rw[ht]
  have e2:((movS s 0 0 t false).e i).bx=(applyP 0 0 t false (s.e i).bx (s.e i).by').1:=by
   show (applyP 0 0 (modZ t 4) false (s.e i).bx (s.e i).by').1=_;rw[ht]
  rw[e1,e2] at hi2
  exact hi2
 obtain⟨i0,j0,k0⟩:=turn 0 (by decide) (by omega)
 obtain⟨i1,j1,k1⟩:=turn 1 (by decide) (by omega)
 obtain⟨i2,j2,k2⟩:=turn 2 (by decide) (by omega)
 obtain⟨i3,j3,k3⟩:=turn 3 (by decide) (by omega)
 simp only[apply_0] at k0
 simp only[apply_1] at k1
 simp only[apply_2] at k2
 simp only[apply_3] at k3
 have l0:=(x0_le (e:=s.e) (m:=s.n-1) (k:=i0) (by omega)).2.2.1
 have l1:=(x0_le (e:=s.e) (m:=s.n-1) (k:=i1) (by omega)).2.1
 have l2:=(x0_le (e:=s.e) (m:=s.n-1) (k:=i2) (by omega)).1
 have l3:=(x0_le (e:=s.e) (m:=s.n-1) (k:=i3) (by omega)).2.2.2
 clear turn hd off hi
 exact⟨by clear l0 l1 l3 k0 k1 k3;omega,by clear l0 l2 l3 k0 k2 k3;omega,by clear l1 l2 l3 k1 k2 k3;omega,by clear l0 l1 l2 k0 k1 k2;omega⟩
end
theorem sq_sym(x y:Int):(x-y)*(x-y)=(y-x)*(y-x):=by grind
def Bd2(x:Int):Prop := -2000<=x/\x<=2000
theorem Bd2.co{x:Int}(h:Bd2 x):Co x:=by unfold Bd2 at h;unfold Co;omega
theorem ln_ok{ax ay bx by':Int}(h1:Bd2 ax)(h2:Bd2 ay)(h3:Bd2 bx)(h4:Bd2 by'):(lnEd ax ay bx by').ok=true:=line_ok h1.co h2.co h3.co h4.co
theorem rect_okS{x0 y0 x1 y1:Int}(h1:Bd2 x0)(h2:Bd2 y0)(h3:Bd2 x1)(h4:Bd2 y1):OkS (rectS x0 y0 x1 y1) :=
 okS_list (.inr rfl) (by simp) (by simp) (all1 (ln_ok h1 h2 h3 h2) (all1 (ln_ok h3 h2 h3 h4) (all1 (ln_ok h3 h4 h1 h4) (all1 (ln_ok h1 h4 h1 h2) all0)))) ⟨⟨rfl,rfl⟩,⟨rfl,rfl⟩,⟨rfl,rfl⟩,trivial,trivial⟩ (fun _=>⟨rfl,rfl⟩) ⟨by decide,fun _=>rfl⟩
theorem near_ver{x a b p:Int}(h:a<b)(h1:a<=p/\p<=b):nearC (lnEd x a x b) x p 0=true:=by
 unfold nearC frZ alZ loZ crZ lnEd
 simp only[Int.sub_self,Int.mul_zero,Int.zero_mul,Int.zero_add,if_true]
 split
 ·rfl
 ·rename_i g1
  split
  ·rfl
  ·rename_i g2
   have e1:p≠a:=fun g=>g1 (by rw[g,Int.sub_self];decide)
   have e2:p≠b:=fun g=>g2 (by rw[g,Int.sub_self];decide)
   have k1:0<(p-a)*(b-a):=Int.mul_pos (by omega) (by omega)
   have k2:(p-a)*(b-a)<(b-a)*(b-a):=Int.mul_lt_mul_of_pos_right (by omega) (by omega)
   rw[if_neg (by omega),if_neg (by omega)]
   decide
theorem near_hor{y a b p:Int}(h:a<b)(h1:a<=p/\p<=b):nearC (lnEd b y a y) p y 0=true:=by
 unfold nearC frZ alZ loZ crZ lnEd
 simp only[Int.sub_self,Int.mul_zero,Int.zero_mul,Int.add_zero,if_true]
 split
 ·rfl
 ·rename_i g1
  split
  ·rfl
  ·rename_i g2
   have e1:p≠b:=fun g=>g1 (by rw[g,Int.sub_self];decide)
   have e2:p≠a:=fun g=>g2 (by rw[g,Int.sub_self];decide)
   have k1:0<(b-p)*(b-a):=Int.mul_pos (by omega) (by omega)
   have k2:(b-p)*(b-a)<(b-a)*(b-a):=Int.mul_lt_mul_of_pos_right (by omega) (by omega)
   have k3:(p-b)*(a-b)=(b-p)*(b-a):=by grind
   have k4:=sq_sym a b
   rw[if_neg (by omega),if_neg (by omega)]
   decide
def InR(x0 y0 x1 y1 px py:Int):Prop:=(x0<=px/\px<=x1)/\y0<=py/\py<=y1
theorem rect_bx{x0 y0 x1 y1:Int}(h1:Bd2 x0)(h2:Bd2 y0)(h3:Bd2 x1)(h4:Bd2 y1)(hx:x0<x1)(hy:y0<y1)(px py:Int):inBx (rectS x0 y0 x1 y1) px py=inB x0 y0 x1 y1 px py:=by
 unfold Bd2 at *
 have e1:bX0 (rectS x0 y0 x1 y1)=x0:=by
  show IntKind.i64.wrap (min (min (min (min x0 x1) (min x1 x1)) (min x1 x0)) (min x0 x0)-0)=x0
  rw[wrap_in (by unfold I64;omega)];omega
 have e2:bY0 (rectS x0 y0 x1 y1)=y0:=by
  show IntKind.i64.wrap (min (min (min (min y0 y0) (min y0 y1)) (min y1 y1)) (min y1 y0)-0)=y0
  rw[wrap_in (by unfold I64;omega)];omega
 have e3:bX1 (rectS x0 y0 x1 y1)=x1:=by
  show IntKind.i64.wrap (max (max (max (max x0 x1) (max x1 x1)) (max x1 x0)) (max x0 x0)+0)=x1
  rw[wrap_in (by unfold I64;omega)];omega
 have e4:bY1 (rectS x0 y0 x1 y1)=y1:=by
  show IntKind.i64.wrap (max (max (max (max y0 y0) (max y0 y1)) (max y1 y1)) (max y1 y0)+0)=y1
  rw[wrap_in (by unfold I64;omega)];omega
 unfold inBx
 rw[e1,e2,e3,e4]
theorem ray_0{a x b px py:Int}:rayZ (lnEd a x b x) px py=0:=by
 unfold rayZ
 rw[if_neg (fun ⟨g1,g2,_⟩=>absurd g2 (Int.not_lt.2 g1)),if_neg (fun ⟨g1,g2,_⟩=>absurd g2 (Int.not_lt.2 g1))]
theorem rect_wnd{x0 y0 x1 y1 px py:Int}(h1:x0<=px)(h2:px<x1)(h3:y0<=py)(h4:py<y1):wnd (rectS x0 y0 x1 y1).e px py 4=1:=by
 show 0+rayZ (lnEd x0 y0 x1 y0) px py+rayZ (lnEd x1 y0 x1 y1) px py+rayZ (lnEd x1 y1 x0 y1) px py+rayZ (lnEd x0 y1 x0 y0) px py=1
 have e1:rayZ (lnEd x1 y0 x1 y1) px py=1:=by
  unfold rayZ
  exact if_pos ⟨h3,h4,by unfold beyZ;exact if_pos (show px<min x1 x1 by omega)⟩
 have e2:rayZ (lnEd x0 y1 x0 y0) px py=0:=by
  have b:beyZ (lnEd x0 y1 x0 y0) px py=false:=by
   unfold beyZ
   exact (if_neg (show ¬px<min x0 x0 by omega)).trans (if_pos (show px >= max x0 x0 by omega))
  unfold rayZ
  rw[b,if_neg (fun g=>by cases g.2.2),if_neg (fun g=>by cases g.2.2)]
 rw[ray_0,ray_0,e1,e2]
 rfl
theorem rect_ins{x0 y0 x1 y1:Int}(h1:Bd2 x0)(h2:Bd2 y0)(h3:Bd2 x1)(h4:Bd2 y1)(hx:x0<x1)(hy:y0<y1){px py:Int}:(InR x0 y0 x1 y1 px py->insS (rectS x0 y0 x1 y1) px py=true)/\(¬InR x0 y0 x1 y1 px py->insS (rectS x0 y0 x1 y1) px py=false):=by
 have hc:=(rect_okS h1 h2 h3 h4).chk
 have e:insS (rectS x0 y0 x1 y1) px py=if inB x0 y0 x1 y1 px py=false then false else if allB (farB (rectS x0 y0 x1 y1) px py) 4=false then true else decide ((2:Int)=2)&&decide (wnd (rectS x0 y0 x1 y1).e px py 4≠0):=by
  unfold insS
  rw[if_neg (fun g=>g hc),rect_bx h1 h2 h3 h4 hx hy]
  rfl
 constructor
 ·rintro ⟨⟨a1, a2⟩, a3, a4⟩
  have b:inB x0 y0 x1 y1 px py=true:=by unfold inB;simp[a1,a2,a3,a4]
  rw[e,b,if_neg (by decide)]
  have far:∀k,k<4->nearC ((rectS x0 y0 x1 y1).e k) px py 0=true->allB (farB (rectS x0 y0 x1 y1) px py) 4=false:=fun k hk g=>by
   rw[Bool.eq_false_iff]
   intro f
   have:=allB_t.1 f k hk
   unfold farB at this
   rw[show (rectS x0 y0 x1 y1).r=0 from rfl,g] at this
   cases this
  by_cases p1:px=x1
  ·rw[if_pos (far 1 (by omega) (by rw[p1];exact near_ver hy ⟨a3,a4⟩))]
  ·by_cases p2 : py = y1
   ·rw[if_pos (far 2 (by omega) (by rw[p2];exact near_hor hx ⟨a1,a2⟩))]
   ·rw [rect_wnd a1 (by omega) a3 (by omega)]
    split<;>rfl
 ·intro g
  have b:inB x0 y0 x1 y1 px py=false:=by
   rw[Bool.eq_false_iff]
   intro f
   unfold inB at f
   simp only[Bool.and_eq_true,decide_eq_true_eq] at f
   exact g ⟨⟨f.1,f.2.1⟩,f.2.2.1,f.2.2.2⟩
  rw[e,b,if_pos rfl]
theorem cmp_qiO{z:Q4}(h:z.ok)(m:Int):cmpRt z.rt ⟨m,0,zero,ofZ 1⟩=cmpQ z (intQ m):=by rw[<- intQ_rt,cmpQ_rt h (intQ_ok m)]
theorem holds_iff{a b:Sh}(oa:OkS a)(ob:OkS b)(h2:a.k=2){z:Q4}(C:CoreQ (bordS a) b z)(D:Int) :
  holdsQ a b D=true <-> (metB (bordS a) b=false/\0<=cmpQ z (intQ (D+b.r))/\insS a (b.e 0).ax (b.e 0).ay=true/\aroB b a=false):=by
 have DQ:=core_dist (bord_ok oa h2) ob C
 obtain⟨q1,q2,q3⟩:=DQ.eq
 have e:borderQ a b=ofQ (bordS a) b:=by unfold borderQ;rw[if_neg (fun g=>g.elim (fun f=>f h2) fun f=>f oa.chk)]
 have ec:cmpG (ofQ (bordS a) b).1 D=cmpQ z (intQ (D+b.r)):=by
  unfold cmpG
  rw[q3,cmp_qiO (shQ_ok C.ok _)]
  unfold cmpQ shQ intQ
  simp only
  rw[show z.a+(-(bordS a).r-b.r)-D=z.a-(D+b.r) by show z.a+(-(0:Int)-b.r)-D=_;omega]
 unfold holdsQ
 rw[e,q1,q2,ec]
 by_cases g:(true=false)\/metB (bordS a) b=true\/cmpQ z (intQ (D+b.r))<0
 ·rw [if_pos g]
  simp only[Bool.false_eq_true,false_iff]
  rintro⟨g1,g2,_⟩
  rcases g with g|g|g
  ·cases g
  ·rw[g1] at g;cases g
  ·omega
 ·rw [if_neg g]
  simp only[not_or,Bool.not_eq_true] at g
  simp only[Bool.and_eq_true,Bool.not_eq_true']
  exact⟨fun h=>⟨g.2.1,by omega,h.1,h.2⟩,fun h=>⟨h.2.2.1,h.2.2.2⟩⟩
theorem cmp_mono{z:Q4}(h:z.ok){m n:Int}(hmn:m<=n)(g:0<=cmpQ z (intQ n)):0<=cmpQ z (intQ m):=by
 have i:cmpQ (intQ m) (intQ n)<=0:=by
  unfold cmpQ cmpR intQ
  simp only[Int.mul_one,show nz 1 0=0 from rfl,Int.mul_zero,Int.add_zero,Int.sub_zero]
  have e1:sideZ (m-n) 0 0=sgn (m-n):=side_l0P _ _
  have e2:=sqz_nn (m-n)
  rw[e1]
  rcases sgn_cases (m-n) with⟨k1,k2⟩|⟨k1,k2⟩|⟨k1,k2⟩<;>rw[k1]
  ·omega
  ·simp
  ·rw[if_pos (by decide)];decide
 have a1:cmpQ (intQ n) z<=0:=by rw[cmpQ_anti h (intQ_ok n)];omega
 have a2:=cmpQ_trans (intQ_ok m) (intQ_ok n) h i a1
 rw[cmpQ_anti h (intQ_ok m)] at a2
 omega
theorem holds_k{a b:Sh}{D:Int}(h:holdsQ a b D=true):a.k=2:=by
 by_cases h2:a.k=2
 ·exact h2
 ·have e : borderQ a b = (Gp.no, false) := by unfold borderQ; rw [if_pos (.inl h2)]
  unfold holdsQ at h
  rw[e] at h
  simp at h
theorem holds_mono{a b:Sh}(oa:OkS a)(ob:OkS b){m n:Int}(hmn:m<=n)(h:holdsQ a b n=true):holdsQ a b m=true:=by
 have h2:=holds_k h
 obtain⟨z,C⟩:=core_q (bord_ok oa h2) ob
 obtain⟨g1,g2,g3,g4⟩:=(holds_iff oa ob h2 C n).1 h
 exact (holds_iff oa ob h2 C m).2 ⟨g1,cmp_mono C.ok (by omega) g2,g3,g4⟩
theorem holds_touch{a b:Sh}(oa:OkS a)(ob:OkS b){D:Int}(h:holdsQ a b D=true):touchQ a b=true:=by
 have h2:=holds_k h
 obtain⟨z,C⟩:=core_q (bord_ok oa h2) ob
 obtain⟨_,_,g3,_⟩:=(holds_iff oa ob h2 C D).1 h
 obtain⟨y,E⟩:=dist_q oa ob
 have hm:metB a b=true:=by
  have:aroB a b=true:=by unfold aroB;rw[h2,g3];rfl
  unfold metB;rw[this];rfl
 obtain⟨q1,q2,q3⟩:=E.eq
 have ha:=oa.r.1
 have hb:=ob.r.1
 have e:shQ (intQ 0) (-a.r-b.r)=intQ (-a.r-b.r):=by unfold shQ intQ;simp
 unfold touchQ cmpG
 rw[q1,q3,(E.met hm).1,cmp_qiO (shQ_ok (intQ_ok 0) _),e]
 have:cmpQ (intQ (-a.r-b.r)) (intQ 0)<=0:=by
  have s:=cmpQ_self (intQ_ok (-a.r-b.r))
  have:=cmp_mono (intQ_ok (0:Int)) (m := -a.r-b.r) (n:=0) (by omega) (by rw[cmpQ_self (intQ_ok 0)];exact Int.le_refl 0)
  rw[cmpQ_anti (intQ_ok _) (intQ_ok _)]
  omega
 simp[this]
theorem holds_ends{a b:Sh}(fa:FineS a)(ob:OkS b){D:Int}(h0:0<=D+b.r)(h:holdsQ a b D=true):∀j,j<b.n->∀x y,EndOf (b.e j) x y->insS a x y=true /\
  (x0N a.e (a.n-1)+(D+b.r)<=x/\y0N a.e (a.n-1)+(D+b.r)<=y/\x+(D+b.r)<=x1N a.e (a.n-1)/\y+(D+b.r)<=y1N a.e (a.n-1)):=by
 have oa:=fa.1
 have h2:=holds_k h
 have oB:=bord_ok oa h2
 have hbn:=n_pos ob
 have han:=n_pos oa
 have hm:metB (bordS a) b=false:=by
  obtain⟨z,C⟩:=core_q oB ob
  exact ((holds_iff oa ob h2 C D).1 h).1
 obtain⟨i,hi,j,hj,C,hl⟩:=core_l oB ob hm
 obtain⟨_,g2,g3,_⟩:=(holds_iff oa ob h2 C D).1 h
 have hsep:∀i,i<a.n->∀j,j<b.n->countE (a.e i) (b.e j)=0:=(sep_all (a:=bordS a) hbn).1 (far_sep hm)
 have off:∀j,j<b.n->∀x y,EndOf (b.e j) x y->∀i,i<a.n->onE (a.e i) x y=false:=fun j hj x y hE i hi=>off_of ((countE_comm (a.e i) (b.e j)).trans (hsep i hi j hj)) (hE.on (ob.ok j hj))
 have far:∀j,j<b.n->∀x y,EndOf (b.e j) x y->∀i,i<a.n->0<=cmpQ (pointQ (a.e i) x y) (intQ (D+b.r)):=fun q hq x y hE p hp=>by
  have oa':=oa.ok p hp
  have ob':=ob.ok q hq
  have oks:=candQ_ok oa' ob'
  have mem:pointQ (a.e p) x y∈candQ (a.e p) (b.e q):=by
   rcases hE with⟨rfl,rfl⟩|⟨rfl,rfl⟩
   ·exact cand3 _ _
   ·exact cand4 _ _
  obtain⟨k1,k2⟩:=leastQ_le (candQ_ne (a.e p) (b.e q)) oks
  have c1:=cmpQ_trans C.ok k1 (oks _ mem) (hl p hp q hq) (k2 _ mem)
  have c2:cmpQ (intQ (D+b.r)) (leastQ (candQ ((bordS a).e i) (b.e j)))<=0:=by rw[cmpQ_anti C.ok (intQ_ok _)];omega
  have c3:=cmpQ_trans (intQ_ok _) C.ok (oks _ mem) c2 c1
  rw[cmpQ_anti (oks _ mem) (intQ_ok _)] at c3
  omega
 have key:∀j,j<b.n->(¬wnd a.e (b.e j).ax (b.e j).ay a.n=0)/\¬wnd a.e (b.e j).bx (b.e j).by' a.n=0:=by
  have step:∀j,j<b.n->¬wnd a.e (b.e j).ax (b.e j).ay a.n=0->¬wnd a.e (b.e j).bx (b.e j).by' a.n=0:=fun j hj hw=>by
   have:=wnd_same (a:=a.e) (e:=b.e j) (n:=a.n-1) (ob.ok j hj) (fun k hk=>oa.ok k (by omega)) (fun k hk=>oa.ch k (by omega)) (oa.cl h2) (fun k hk=>hsep k (by omega) j hj)
   rw[show a.n-1+1=a.n by omega] at this
   rw[this];exact hw
  intro j
  induction j with
  | zero =>
   intro hj
   have:=(ins_off oa h2 (off 0 hj _ _ (.inl ⟨rfl,rfl⟩))).1 g3
   exact⟨this,step 0 hj this⟩
  | succ j ih =>
   intro hj
   obtain⟨c1,c2⟩:=ob.ch j hj
   have:=(ih (by omega)).2
   rw[<- c1,<- c2] at this
   exact⟨this,step _ hj this⟩
 intro j hj x y hE
 have hI:insS a x y=true:=(ins_off oa h2 (off j hj x y hE)).2 (by
  rcases hE with⟨rfl,rfl⟩|⟨rfl,rfl⟩
  ·exact (key j hj).1
  ·exact (key j hj).2)
 exact⟨hI,far_box fa h2 (off j hj x y hE) hI h0 (far j hj x y hE)⟩
theorem x0_ge{e:Nat->Ed}{A B:Int}:∀ {m:Nat},(∀k,k<=m->(A<=(e k).ax/\(e k).ax<=B)/\(A<=(e k).ay/\(e k).ay<=B)/\(A<=(e k).bx/\(e k).bx<=B)/\(A<=(e k).by'/\(e k).by'<=B))->(A<=x0N e m/\x0N e m<=B)/\(A<=y0N e m/\y0N e m<=B)/\(A<=x1N e m/\x1N e m<=B)/\(A<=y1N e m/\y1N e m<=B)
 | 0,h=>by
  have:=h 0 (Nat.le_refl _)
  unfold x0N y0N x1N y1N;omega
 | m+1,h=>by
  have ih:=x0_ge (m:=m) fun k hk=>h k (by omega)
  have:=h (m+1) (Nat.le_refl _)
  unfold x0N y0N x1N y1N;omega
def bigS(a:Sh):Sh:=rectS (x0N a.e (a.n-1)-1) (y0N a.e (a.n-1)-1) (x1N a.e (a.n-1)+1) (y1N a.e (a.n-1)+1)
theorem box_sm{a:Sh}(fa:FineS a):(Sm3 (x0N a.e (a.n-1))/\Sm3 (y0N a.e (a.n-1))/\Sm3 (x1N a.e (a.n-1))/\Sm3 (y1N a.e (a.n-1)))/\x0N a.e (a.n-1)<=x1N a.e (a.n-1)/\y0N a.e (a.n-1)<=y1N a.e (a.n-1):=by
 have hn:=n_pos fa.1
 have:=x0_ge (e:=a.e) (m:=a.n-1) (A := -1000) (B:=1000) fun k hk=>by
  obtain⟨⟨s1,s2⟩,⟨s3,s4⟩,_⟩:=fa.2.1 k (by omega)
  exact⟨s1,s2,s3,s4⟩
 have l:=x0_le (e:=a.e) (m:=a.n-1) (k:=0) (by omega)
 unfold Sm3
 omega
theorem x0_lb{e:Nat->Ed}{A:Int}:∀ {m:Nat},(∀k,k<=m->A<=(e k).ax/\A<=(e k).bx)->A<=x0N e m
 | 0,h=>by
  have:=h 0 (Nat.le_refl _)
  unfold x0N;omega
 | m+1,h=>by
  have ih:=x0_lb (m:=m) fun k hk=>h k (by omega)
  have:=h (m+1) (Nat.le_refl _)
  unfold x0N;omega
theorem pt_no{e:Ed}(h:¬e.ax=e.bx\/¬e.ay=e.by'):e.pt=false:=by
 rw[Bool.eq_false_iff]
 intro g
 unfold Ed.pt at g
 simp only[Bool.and_eq_true,beq_iff_eq] at g
 omega
theorem rect_holds{b:Sh}(ob:OkS b){x0 y0 x1 y1 D:Int}(h1:Bd2 x0)(h2:Bd2 y0)(h3:Bd2 x1)(h4:Bd2 y1)(hx:x0<x1)(hy:y0<y1)(h0:0<=D+b.r)
  (hE:∀j,j<b.n->∀x y,EndOf (b.e j) x y->x0+(D+b.r)<x/\y0+(D+b.r)<y/\x+(D+b.r)<x1/\y+(D+b.r)<y1):holdsQ (rectS x0 y0 x1 y1) b D=true:=by
 have hbn:=n_pos ob
 have oG:=rect_okS h1 h2 h3 h4
 have oB:=bord_ok oG rfl
 have F:∀i,i<4->∀j,j<b.n->countE ((rectS x0 y0 x1 y1).e i) (b.e j)=0/\0<=cmpQ (leastQ (candQ ((rectS x0 y0 x1 y1).e i) (b.e j))) (intQ (D+b.r)):=fun i hi j hj=>by
  obtain⟨a1,a2,a3,a4⟩:=hE j hj _ _ (.inl ⟨rfl,rfl⟩)
  obtain⟨b1,b2,b3,b4⟩:=hE j hj _ _ (.inr ⟨rfl,rfl⟩)
  have oj:=ob.ok j hj
  have oi:=oG.ok i hi
  have G:∀ {l:Ed} {α β m:Int},DirH α β->l.ok=true->l.k=1->l.pt=false->α*l.ax+β*l.ay=m->α*l.bx+β*l.by'=m->Beh α β (b.e j) (m+(D+b.r)+1)->countE l (b.e j)=0/\0<=cmpQ (leastQ (candQ l (b.e j))) (intQ (D+b.r)):=fun h o k p l1 l2 hb =>
   ⟨flat_apart h o k p oj l1 l2 (by unfold Beh at *;omega),cand_ge h o k oj h0 l1 l2 (by unfold Beh at *;omega)⟩
  rcases (show i=0\/i=1\/i=2\/i=3 by omega) with rfl|rfl|rfl|rfl
  ·exact G (α:=0) (β:=1) (m:=y0) ⟨.inr ⟨rfl,rfl⟩⟩ oi rfl (pt_no (.inl (show ¬x0=x1 by omega))) (show 0*x0+1*y0=y0 by omega) (show 0*x1+1*y0=y0 by omega) (by unfold Beh;omega)
  ·exact G (α := -1) (β:=0) (m := -x1) ⟨.inl ⟨rfl,rfl⟩⟩ oi rfl (pt_no (.inr (show ¬y0=y1 by omega))) (show -1*x1+0*y0 = -x1 by omega) (show -1*x1+0*y1 = -x1 by omega) (by unfold Beh;omega)
  ·exact G (α:=0) (β := -1) (m := -y1) ⟨.inr ⟨rfl,rfl⟩⟩ oi rfl (pt_no (.inl (show ¬x1=x0 by omega))) (show 0*x1 + -1*y1 = -y1 by omega) (show 0*x0 + -1*y1 = -y1 by omega) (by unfold Beh;omega)
  ·exact G (α:=1) (β:=0) (m:=x0) ⟨.inl ⟨rfl,rfl⟩⟩ oi rfl (pt_no (.inr (show ¬y1=y0 by omega))) (show 1*x0+0*y1=x0 by omega) (show 1*x0+0*y0=x0 by omega) (by unfold Beh;omega)
 have hout:b.k=2->insS b x0 y0=false:=fun k2=>by
  obtain⟨e1,_⟩:=bx_eq ob k2
  have l:=x0_lb (e:=b.e) (m:=b.n-1) (A:=x0+1) fun k hk=>by
   have p1:=(hE k (by omega) _ _ (.inl ⟨rfl,rfl⟩)).1
   have p2:=(hE k (by omega) _ _ (.inr ⟨rfl,rfl⟩)).1
   omega
  have:inBx b x0 y0=false:=by
   unfold inBx inB
   rw[e1,decide_eq_false (show ¬x0N b.e (b.n-1)<=x0 by omega)]
   rfl
  unfold insS
  rw[if_neg (fun g=>g ob.chk),if_pos this]
 have haro:∀s:Sh,(s.e 0).ax=x0->(s.e 0).ay=y0->aroB b s=false:=fun s g1 g2=>by
  unfold aroB
  rw[g1,g2]
  by_cases k2:b.k=2
  ·rw[hout k2];simp
  ·have : (b.k == 2) = false := by simpa using k2
   rw[this];rfl
 have hm:metB (bordS (rectS x0 y0 x1 y1)) b=false:=by
  unfold metB
  have hs:allB (sep (bordS (rectS x0 y0 x1 y1)) b) ((bordS (rectS x0 y0 x1 y1)).n*b.n)=true:=(sep_all (a:=bordS (rectS x0 y0 x1 y1)) hbn).2 fun i hi j hj=>(F i hi j hj).1
  rw[show aroB (bordS (rectS x0 y0 x1 y1)) b=false from rfl,haro (bordS (rectS x0 y0 x1 y1)) rfl rfl,hs]
  rfl
 obtain⟨i,hi,j,hj,C,_⟩:=core_l oB ob hm
 obtain⟨p1,p2,p3,p4⟩:=hE 0 hbn _ _ (.inl ⟨rfl,rfl⟩)
 exact (holds_iff oG ob rfl C D).2 ⟨hm,(F i hi j hj).2,(rect_ins h1 h2 h3 h4 hx hy).1 ⟨⟨by omega,by omega⟩,by omega,by omega⟩,haro _ rfl rfl⟩
theorem holds_big{a b:Sh}(fa:FineS a)(ob:OkS b){D:Int}(h0:0<=D+b.r)(h:holdsQ a b D=true):holdsQ (bigS a) b D=true:=by
 have hE:=holds_ends fa ob h0 h
 obtain⟨⟨s1,s2,s3,s4⟩,u1,u2⟩:=box_sm fa
 unfold Sm3 at s1 s2 s3 s4
 exact rect_holds ob (by unfold Bd2;omega) (by unfold Bd2;omega) (by unfold Bd2;omega) (by unfold Bd2;omega) (by omega) (by omega) h0 fun j hj x y hx=>by
  have:=(hE j hj x y hx).2
  omega

set_option maxRecDepth 100000
section
theorem lt_tH{a b:Int}(h:a<b):decide (a<b)=true:=by simpa using h
theorem lt_fH{a b:Int}(h:¬a<b):decide (a<b)=false:=by simpa using h
def pVh(v:V1):Pf:=⟨v=v,rfl⟩
def pKh(j:Nat)(h:j+1<=2000):Pf:=⟨((j:Nat):Int)+1=((j+1:Nat):Int)/\(((j:Nat):Int)+1).natAbs<=2000,by omega⟩
def pSl(a b:Sh)(nd:Int):List Pf:=[pVh (blV true),pVh (fpV (shL a)),pVh (fpV (shL b)),pVh (inV nd 10)]
theorem not_tH{b:Bool}(h:b=false):(!b)=true:=by rw[h];rfl
theorem not_fH{b:Bool}(h:b=true):(!b)=false:=by rw[h];rfl
theorem fp_ext{V W W':World}{r:Nat->Nat}{k:Nat}{l:List It}{v:Value}(h:RepV V W r k (fpV l) v)(hx:Ext V W'):RepV W' W' (fun _=>0) 0 (fpV l) v:=by
 obtain⟨cs,⟨c,d,rfl,⟨g,o,xs,T,rfl,h1,h2,c',d',h3,h4⟩,rfl⟩,e1,e2⟩:=h
 exact⟨_,⟨[_],[],rfl,⟨g,o,xs,T,rfl,heap_ext h1 hx,h2,c',d',h3,h4.ext hx⟩,rfl⟩,e1,e2⟩
theorem gh_loop(a b:Sh)(nd:Int)(ha:a.n<=1000)(hb:b.n<=1000)(hi:∀j,j<b.n->insS a (b.e j).ax (b.e j).ay=true/\insS a (b.e j).bx (b.e j).by'=true):OrcOk Tryz.prog (lpC fGh 14) ⟨109,ghL a b nd 0,.ex 0,⟨ghB a b nd,[]⟩⟩ :=
 orc (X:=[]) (K:=KGh) (f:=fGh) (id:=14) (n:=109) b.n (ghL a b nd) (fun _=>[]) (e:=.ex 0) (d1:=⟨ghB a b nd,[]⟩) (by kernel_rfl) (fun _=>by kernel_rfl) (fun _ _=>LT.nil)
  (fun k hk=>⟨[true,false,false],pT (lt_tH (show (k:Int)<(b.n:Int) by omega))::pP (show 0<=(k:Int)/\(k:Int)<(b.n:Int) by omega)::pEd a::pP ha::pF (not_fH (hi k hk).1)::pEd a::pP ha::pF (not_fH (hi k hk).2)::pKh k (by omega)::pVh (inV (b.n:Int) lim)::pVh ⟨false,[roE b.n b.e]⟩::pSl a b nd,by kernel_rfl⟩)
  ⟨[false],pF (lt_fH (show ¬(b.n:Int)<(b.n:Int) by omega))::pSl a b nd,by kernel_rfl⟩ nofun
theorem rest7:restS 7 (bodyF Tryz.prog fGh)=.seq (.region 13 (opsT fGh 13).toArray false) (restS 8 (bodyF Tryz.prog fGh)):=by kernel_rfl
theorem gh_tail{a b:Sh}(fa:FineS a)(ob:OkS b){nd:Int}(hk:0<=nd/\nd<10){w V:World}(A:Act)(B8 B9:Nat)(hsz:A.tmps.size=109)(hd:A.defers=[])(h7:A.tmps.getD 7 undef=.bool true)(h8:A.tmps.getD 8 undef=ptrA B8)(h9:A.tmps.getD 9 undef=ptrA B9)(h10:A.tmps.getD 10 undef=.int .i64 nd)(f8:FpAt V B8 (shL a))(f9:FpAt V B9 (shL b))(hx:Ext w V) :
  (restS 4 (bodyF Tryz.prog fGh)).wp Tryz.prog (bodyPost Tryz.prog Tryz.f4 fun e w'=>e=.returned (.bool true)/\Ext w w') A V:=by
 obtain⟨tm,df⟩:=A
 obtain rfl:df=[]:=hd
 have oa:=fa.1
 have base:∀(tm':Array Value) (V':World),tm'.getD 7 undef=.bool true->tm'.getD 8 undef=ptrA B8->tm'.getD 9 undef=ptrA B9->tm'.getD 10 undef=.int .i64 nd->FpAt V' B8 (shL a)->FpAt V' B9 (shL b)->∀z∈ghB a b nd,RepV V' V' (fun _=>0) 0 z.2.v (tm'.getD z.1 undef):=fun tm' V' g7 g8 g9 g10 k8 k9 z hz=>by
  simp only[ghB,List.mem_cons,List.not_mem_nil,or_false] at hz
  rcases hz with rfl|rfl|rfl|rfl
  ·rw[g7];exact rv_v.2 ⟨rfl,rfl⟩
  ·rw[g8];exact k8.rv
  ·rw[g9];exact k9.rv
  ·rw[g10];exact rv_i.2 ⟨⟨by omega,by unfold I64;omega⟩,rfl⟩
 have hJ:JJ V (mkS 109 ⟨ghB a b nd,[]⟩) ⟨tm,[]⟩ V:=old_J (a:=⟨tm,[]⟩) hsz (base tm V h7 h8 h9 h10 f8 f9)
 have e0:(0:Int)=((0:Nat):Int):=rfl
 cases hh:holdsQ a b nd with
 | false =>
  have no:∀m,nd<=m->holdsQ a b m=false:=fun m hm=>by
   cases h:holdsQ a b m with
   | false=>rfl
   | true=>rw[holds_mono oa ob hm h] at hh;cases hh
  refine tailH_wp (X:=[]) (K:=KGh) (res:=.one (blV (!holdsQ a b (nd+50)))) LT.nil [true,true,true] [pEd a,pEd b,pT (not_tH hh),pT (rfl:true=true),pEd a,pEd b,pT (not_tH (no (nd+1) (by omega))),pEd a,pEd b] (by kernel_rfl) Tryz.func4 hJ fun v w' hv hx'=>⟨?_,Ext.step hx hx'⟩
  rw[(rv_v.1 hv).2,no (nd+50) (by omega)]
  rfl
 | true =>
  have h2:=holds_k hh
  have hr:=ob.r.1
  have na:a.n<=1000:=by have:=oa.n1;omega
  have nb:b.n<=1000:=by have:=ob.n1;omega
  have hE:=holds_ends fa ob (D:=nd) (by omega) hh
  have o:=gh_loop a b nd na nb fun j hj=>⟨(hE j hj _ _ (.inl ⟨rfl,rfl⟩)).1,(hE j hj _ _ (.inr ⟨rfl,rfl⟩)).1⟩
  obtain⟨⟨s1,s2,s3,s4⟩,_⟩:=box_sm fa
  obtain⟨x1,x2,x3,x4⟩:=bx_eq oa h2
  have hbig:=holds_big fa ob (D:=nd) (by omega) hh
  unfold bigS at hbig
  rw[<- x1] at s1 hbig
  rw[<- x2] at s2 hbig
  rw[<- x3] at s3 hbig
  rw[<- x4] at s4 hbig
  unfold Sm3 at s1 s2 s3 s4
  refine midH_wp (X:=[]) (K:=KGh) (n:=4) (k:=3) (d':=ghR a b nd) (LT.cons o LT.nil) [false] ([pEd a,pEd b,pF (not_fH hh),⟨(0:Int)=((0:Nat):Int),e0⟩,pVh (inV (b.n:Int) lim),pVh ⟨false,[roE b.n b.e]⟩]++pSl a b nd++[pEd a,pP na,pVh ⟨false,[.p 0 0]⟩]++pSl a b nd++[⟨bX0 a=bX0 a/\(bX0 a).natAbs<=2000,rfl,by omega⟩,⟨bY0 a=bY0 a/\(bY0 a).natAbs<=2000,rfl,by omega⟩,⟨bX1 a=bX1 a/\(bX1 a).natAbs<=2000,rfl,by omega⟩,⟨bY1 a=bY1 a/\(bY1 a).natAbs<=2000,rfl,by omega⟩]) (by kernel_rfl) hJ fun A1 W1 hJ1=>?_
  obtain⟨y1,z1,d1,r,k3,k4⟩:=own_fp hJ1
  rw[rest7]
  have g13:A1.tmps.getD 13 undef=ptrA (r 0):=(List.cons.inj (k3 13 ⟨false,[.p 0 0]⟩ (by kernel_rfl)).scal.2).1
  have g7:A1.tmps.getD 7 undef=.bool true:=(rv_v.1 (k3 7 (blV true) (by kernel_rfl))).2
  have g10:A1.tmps.getD 10 undef=.int .i64 nd:=(rv_i.1 (k3 10 (inV nd 10) (by kernel_rfl))).2
  have g8:=k3 8 (fpV (shL a)) (by kernel_rfl)
  have g9:=k3 9 (fpV (shL b)) (by kernel_rfl)
  have f13:FpAt W1 (r 0) [.i (bX0 a) 2000,.i (bY0 a) 2000,.i (bX1 a) 2000,.i (bY1 a) 2000]:=k4 0 _ rfl (by kernel_rfl)
  refine wp_seq (gh_r13 (bX0 a) (bY0 a) (bX1 a) (bY1 a) A1 W1 (r 0) _ z1 g13 f13 fun A2 W2 g z2 d2 o2 y2 e14 fG=>?_)
  obtain⟨G,hG⟩:∃G,rectS (bX0 a-1) (bY0 a-1) (bX1 a+1) (bY1 a+1)=G:=⟨_,rfl⟩
  rw[hG] at fG hbig
  have y12:=Ext.step y1 y2
  obtain⟨tm2,df2⟩:=A2
  obtain rfl:df2=[]:=d2.trans d1
  have hJ2:JJ W2 (mkS 109 (ghT a b G nd)) ⟨tm2,[]⟩ W2:=old_J (a:=⟨tm2,[]⟩) z2 fun z hz=>by
   simp only[ghT,ghB,List.mem_cons,List.not_mem_nil,or_false] at hz
   rcases hz with rfl|rfl|rfl|rfl|rfl
   ·show RepV _ _ _ _ (fpV (shL G)) (tm2.getD 14 undef);rw[e14];exact fG.rv
   ·show RepV _ _ _ _ (blV true) (tm2.getD 7 undef);rw[show tm2.getD 7 undef=_ from o2 7 (by decide),g7];exact rv_v.2 ⟨rfl,rfl⟩
   ·show RepV _ _ _ _ (fpV (shL a)) (tm2.getD 8 undef);rw[show tm2.getD 8 undef=_ from o2 8 (by decide)];exact fp_ext g8 y12
   ·show RepV _ _ _ _ (fpV (shL b)) (tm2.getD 9 undef);rw[show tm2.getD 9 undef=_ from o2 9 (by decide)];exact fp_ext g9 y12
   ·show RepV _ _ _ _ (inV nd 10) (tm2.getD 10 undef);rw[show tm2.getD 10 undef=_ from o2 10 (by decide),g10];exact rv_i.2 ⟨⟨by omega,by unfold I64;omega⟩,rfl⟩
  have ht:=holds_touch oa ob hh
  have hm:=holds_mono oa ob (show nd-1<=nd by omega) hh
  refine tailH_wp (X:=[]) (K:=KGh) (res:=.one (blV (a.k==2))) LT.nil [true,true,true,true] [pT (rfl:true=true),pEd a,pEd b,pT ht,pEd a,pEd b,pT hm,pEd G,pEd b,pT hbig] (by kernel_rfl) Tryz.func4 hJ2 fun v w' hv hx'=>⟨?_,Ext.step (Ext.step hx y12) hx'⟩
  rw[(rv_v.1 hv).2,h2]
  rfl
end

set_option maxHeartbeats 4000000
set_option maxRecDepth 100000
section
attribute [local go_sem] Gives givesU
theorem mod_smH(z:Int) : -1048576<=z.tmod 60/\z.tmod 60<=1048576:=by
 obtain⟨h1,h2⟩:=tmod_bd z (show (0:Int)<60 by decide)
 generalize z.tmod 60=u at *
 omega
theorem gholds_ok(L M:List Int)(bx by' nd:Int)(v1 v2:Value)(w:World)(h1:IntsC w L v1)(h2:IntsC w M v2) :
  Calls Tryz.prog 4 #[v1,v2,.agg #[.int .i64 bx,.int .i64 by',.int .i64 nd]] w fun e w'=>e=.returned (.bool true)/\Ext w w':=by
 have fa:=made_fine L
 have fb:=made_fine M
 have ob:=mov_ok fb 0 false (mod_smH bx) (mod_smH by')
 have hk:=modZ_bd nd (m:=10) (by omega)
 have SH:=Lib.hid (fun W (hW:Ext w W)=>shapesC L M bx by' v1 v2 W (h1.ext hW) (h2.ext hW) ⟨n_pos fb.1,by have:=fb.1.n1;omega⟩ fb.1.ok)
 have TL:=Lib.hid (fun (V:World) A B8 B9 hsz hd h7 h8 h9 h10 f8 f9 hx=>gh_tail (w:=w) (V:=V) fa ob hk A B8 B9 hsz hd h7 h8 h9 h10 f8 f9 hx)
 have MO:=Lib.hid (fun W=>r01_Mod nd 10 W (by omega))
 clear h1 h2 fa fb ob hk
 generalize madeS L=a at *
 generalize movS (madeS M) (bx.tmod 60) (by'.tmod 60) 0 false=b at *
 generalize modZ nd 10=k at *
 have X0:Ext w (w.alloc (.cells #[.int .i64 bx,.int .i64 by',.int .i64 nd] 26)):=bxx
 have X0:=Lib.hid X0
 have c0:(w.alloc (.cells #[.int .i64 bx,.int .i64 by',.int .i64 nd] 26)).heap[w.heap.size]? = some (.cells #[.int .i64 bx,.int .i64 by',.int .i64 nd] 26):=World.alloc_heap_new _ _
 have C0:=Lib.hid c0
 clear c0
 go_enter Tryz.func4,Tryz.ntmps4
 go_wp2_with fail
 refine (sanC _).mono ?_
 rintro e W1 ⟨rfl,hx1⟩
 have x1:=Lib.hid (Ext.step X0.out hx1)
 have r5:=Lib.hid (heap_ext C0.out hx1)
 have k0:W1.cell? ⟨w.heap.size,0,none⟩=some (.int .i64 bx):=by rw[cell_of_row _ _ _ _ _ _ r5.out];rfl
 have k1:W1.cell? ⟨w.heap.size,1,none⟩=some (.int .i64 by'):=by rw[cell_of_row _ _ _ _ _ _ r5.out];rfl
 have kz:w.heap.size<W1.heap.size:=(Array.getElem?_eq_some_iff.1 r5.out).1
 clear hx1 C0 X0
 go_wp2_with fail
 refine (SH.out _ x1.out).mono ?_
 rintro e W2 ⟨u1,u2,rfl,hu1,hu2,hx2⟩
 obtain⟨p1,c1,rfl,hs1⟩:=ShAt.of hu1
 obtain⟨p2,c2,rfl,hs2⟩:=ShAt.of hu2
 have x2:=Lib.hid (Ext.step x1.out hx2)
 have S1:=Lib.hid hs1
 have S2:=Lib.hid hs2
 have s5:=Lib.hid (heap_ext r5.out hx2)
 have j2:W2.cell? ⟨w.heap.size,2,none⟩=some (.int .i64 nd):=by rw[cell_of_row _ _ _ _ _ _ s5.out];rfl
 have jz:w.heap.size<W2.heap.size:=(Array.getElem?_eq_some_iff.1 s5.out).1
 clear hu1 hu2 hs1 hs2 hx2 k0 k1 kz SH r5 x1
 have y1:=below_alloc W2 (.cells #[.int .i64 a.k,.slice p1 a.n c1,.int .i64 a.r] 30)
 have y2:=below_alloc (W2.alloc (.cells #[.int .i64 a.k,.slice p1 a.n c1,.int .i64 a.r] 30)) (.cells #[.int .i64 b.k,.slice p2 b.n c2,.int .i64 b.r] 30)
 have y12:=Ext.step y1 y2
 have X3:=Lib.hid (Ext.step x2.out y12)
 have R8:=Lib.hid (heap_ext (World.alloc_heap_new W2 (.cells #[.int .i64 a.k,.slice p1 a.n c1,.int .i64 a.r] 30)) y2)
 have r9:=World.alloc_heap_new (W2.alloc (.cells #[.int .i64 a.k,.slice p1 a.n c1,.int .i64 a.r] 30)) (.cells #[.int .i64 b.k,.slice p2 b.n c2,.int .i64 b.r] 30)
 simp only[World.size_alloc] at r9
 have R9:=Lib.hid r9
 have T1:=Lib.hid (S1.out.ext y12)
 have T2:=Lib.hid (S2.out.ext y12)
 clear y1 y2 y12 r9 S1 S2 x2 s5
 go_wp2_with fail
 refine (MO.out _).mono ?_
 rintro e W3 ⟨rfl,hx3⟩
 have fin:Ext w W3/\FpAt W3 W2.heap.size (shL a)/\FpAt W3 (W2.heap.size+1) (shL b):=⟨Ext.step X3.out hx3,.of (cs:=[.int .i64 a.k,.slice p1 a.n c1,.int .i64 a.r]) (heap_ext R8.out hx3) (T1.out.ext hx3).repF,.of (cs:=[.int .i64 b.k,.slice p2 b.n c2,.int .i64 b.r]) (heap_ext R9.out hx3) (T2.out.ext hx3).repF⟩
 have FN:=Lib.hid fin
 clear fin hx3
 rename_i K1 HK1 K2 HK2
 have FIN:=Lib.hid (fun (V:World) A B8 B9 hsz hd h7 h8 h9 h10 f8 f9 hx=>HK1 A V (wp_as (c':=restS 4 (bodyF Tryz.prog 4)) (by kernel_rfl) (TL.out V A B8 B9 hsz hd h7 h8 h9 h10 f8 f9 hx)))
 clear HK1 TL
 go_wp2
 obtain⟨f1,f2,f3⟩:=FN.out
 exact FIN.out _ _ W2.heap.size (W2.heap.size+1) rfl rfl rfl rfl rfl rfl f2 f3 f1
theorem gholds_fok(L M:List Int)(bx by' nd:Int):Fok Tryz.prog 4 [⟨false,[.ds L]⟩,⟨false,[.ds M]⟩,⟨true,[.i bx lim,.i by' lim,.i nd lim]⟩] (.one (blV true)):=fun W vals hv=>by
 obtain⟨v1,h1,_,rfl,hv1⟩:=rvs_cons.1 hv
 obtain⟨v2,h2,_,rfl,hv2⟩:=rvs_cons.1 hv1
 obtain⟨v3,h3,_,rfl,hv3⟩:=rvs_cons.1 hv2
 cases hv3
 simp only[rv_t,rl_i,rl_nil] at h3
 obtain⟨_,⟨_,_,rfl,_,_,rfl,_,_,rfl,rfl⟩,rfl⟩:=h3
 exact (gholds_ok L M bx by' nd v1 v2 W h1.scal.ints h2.scal.ints).mono fun e w' ⟨e1,hx⟩=>⟨_,e1,rv_v.2 ⟨rfl,rfl⟩,hx⟩
end
end Go.Proofs.YteajakbpmeebnaaGreat
