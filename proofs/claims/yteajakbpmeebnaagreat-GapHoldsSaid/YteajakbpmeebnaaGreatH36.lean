import Derived.Test.YteajakbpmeebnaaGreatH35
set_option linter.unusedVariables false
set_option linter.unusedSimpArgs false

namespace Go.Proofs.YteajakbpmeebnaaGreat
open Go.RowKit

section
structure Key (e f:Ed):Prop where
 k1:InY f e.ay->InY f e.by'->beyZ f e.ax e.ay=beyZ f e.bx e.by'
 k1':InY e f.ay->InY e f.by'->beyZ e f.ax f.ay=beyZ e f.bx f.by'
 k2:∀tx ty sx sy,EndOf e tx ty->EndOf f sx sy->InY f ty->InY e sy->beyZ f tx ty=!beyZ e sx sy
theorem Key.swap{e f:Ed}(h:Key e f):Key f e:=⟨h.k1',h.k1,fun tx ty sx sy h1 h2 h3 h4=>by rw[h.k2 sx sy tx ty h2 h1 h4 h3];simp⟩
theorem InY.rev{e:Ed}{y:Int}:InY (revE e) y <-> InY e y:=by unfold InY revE;simp only;omega
theorem EndOf.rev{e:Ed}{x y:Int}:EndOf (revE e) x y <-> EndOf e x y:=by unfold EndOf revE;simp only;omega
theorem bey_rev{e:Ed}{x y:Int}(ho:e.ok=true)(hk:e.k=1)(hy:InY e y):beyZ (revE e) x y=beyZ e x y:=by
 have hk':(revE e).k=1:=by unfold revE;rw[hk];rfl
 unfold beyZ beyL
 rw[if_pos hk,if_pos hk',show (revE e).ax=e.bx from rfl,show (revE e).bx=e.ax from rfl,show (revE e).ay=e.by' from rfl,show (revE e).by'=e.ay from rfl,Int.min_comm,Int.max_comm]
 unfold InY at hy
 by_cases h:e.ay>e.by'
 ·rw[if_neg (show ¬e.by'>e.ay by omega),if_pos h]
 ·rw [if_neg h]
  by_cases g:e.by'>e.ay
  ·rw[if_pos g]
  ·rw [if_neg g]
   have e1:e.by'-e.ay=0:=by omega
   have e2:e.ay-e.by'=0:=by omega
   rw[e1,e2,show y-e.by'=0 by omega,show y-e.ay=0 by omega]
   simp
theorem Key.of_rev{e f:Ed}(ho:e.ok=true)(hk:e.k=1)(h:Key (revE e) f):Key e f:=by
 refine⟨fun h1 h2=>(h.k1 h2 h1).symm,fun h1 h2=>?_,fun tx ty sx sy h1 h2 h3 h4=>?_⟩
 ·have := h.k1' (InY.rev.2 h1) (InY.rev.2 h2)
  rwa [bey_rev ho hk h1,bey_rev ho hk h2] at this
 ·have := h.k2 tx ty sx sy (EndOf.rev.2 h1) h2 h3 (InY.rev.2 h4)
  rwa [bey_rev ho hk h4] at this
theorem side_pos{x y:Int}(h:0<sideI x*sideI y):0<x/\0<y\/x<0/\y<0:=by
 unfold sideI at h
 (repeat' split at h)<;>first|omega|(simp at h)
theorem lines_z{px py qx qy rx ry sx sy:Int}(h:linesZ px py qx qy rx ry sx sy=0)(hd:¬crI px py qx qy rx ry=crI px py qx qy sx sy) :
  (0<crI px py qx qy rx ry/\0<crI px py qx qy sx sy\/crI px py qx qy rx ry<0/\crI px py qx qy sx sy<0)\/(0<crI rx ry sx sy px py/\0<crI rx ry sx sy qx qy\/crI rx ry sx sy px py<0/\crI rx ry sx sy qx qy<0):=by
 have hD:(qx-px)*(sy-ry)-(qy-py)*(sx-rx)≠0:=fun g=>hd (by unfold crI;grind)
 unfold linesZ at h
 rw[if_pos hD] at h
 split at h
 ·rename_i g;exact .inl (side_pos g)
 ·split at h
  ·rename_i g;exact .inr (side_pos g)
  ·cases h
theorem mul_s1{x y:Int}(h:0<=x)(g:0<=y):0<=x*y:=Int.mul_nonneg h g
theorem mul_s2{x y:Int}(h:x<=0)(g:0<=y):x*y<=0:=Int.mul_nonpos_of_nonpos_of_nonneg h g
theorem mul_s3{x y:Int}(h:0<=x)(g:y<=0):x*y<=0:=Int.mul_nonpos_of_nonneg_of_nonpos h g
theorem mul_s4{x y:Int}(h:x<=0)(g:y<=0):0<=x*y:=by have:=mul_s1 (show 0 <= -x by omega) (show 0 <= -y by omega);rwa [Int.neg_mul_neg] at this
theorem sg_l{x y:Int}(h:0<y):(0<x*y <-> 0<x)/\(x*y<0 <-> x<0)/\(x*y=0 <-> x=0):=by
 rcases Int.lt_trichotomy x 0 with g|g|g
 ·have:=Int.mul_neg_of_neg_of_pos g h;omega
 ·rw[g];simp
 ·have:=Int.mul_pos g h;omega
section
variable {Ax Ay Bx By Cx Cy Dx Dy:Int}
theorem yy1:crI Ax Ay Bx By Dx Dy*(Cy-Ay)-crI Ax Ay Bx By Cx Cy*(Dy-Ay)=crI Cx Cy Dx Dy Ax Ay*(By-Ay):=by unfold crI;grind
theorem yy2:crI Ax Ay Bx By Dx Dy*(Cy-By)-crI Ax Ay Bx By Cx Cy*(Dy-By)=crI Cx Cy Dx Dy Bx By*(By-Ay):=by unfold crI;grind
theorem lines_1(h:linesZ Ax Ay Bx By Cx Cy Dx Dy=0)(up:Ay<By)(c:Ay<=Cy/\Cy<=By)(d:Ay<=Dy/\Dy<=By)(n1:¬crI Ax Ay Bx By Cx Cy=0)(n2:¬crI Ax Ay Bx By Dx Dy=0):(0<crI Ax Ay Bx By Cx Cy <-> 0<crI Ax Ay Bx By Dx Dy):=by
 have y1:=yy1 (Ax:=Ax) (Ay:=Ay) (Bx:=Bx) (By:=By) (Cx:=Cx) (Cy:=Cy) (Dx:=Dx) (Dy:=Dy)
 have y2:=yy2 (Ax:=Ax) (Ay:=Ay) (Bx:=Bx) (By:=By) (Cx:=Cx) (Cy:=Cy) (Dx:=Dx) (Dy:=Dy)
 have z:=lines_z h
 generalize crI Ax Ay Bx By Cx Cy=c1 at *
 generalize crI Ax Ay Bx By Dx Dy=c2 at *
 generalize crI Cx Cy Dx Dy Ax Ay=d1 at *
 generalize crI Cx Cy Dx Dy Bx By=d2 at *
 have k1:=sg_l (x:=d1) (show 0<By-Ay by omega)
 have k2:=sg_l (x:=d2) (show 0<By-Ay by omega)
 refine iff_no (fun h1 h2=>?_) (fun h1 h2=>?_)
 ·have z := z (by omega)
  have a1:=mul_s2 (show c2<=0 by omega) (show 0<=Cy-Ay by omega)
  have a2:=mul_s1 (show 0<=c1 by omega) (show 0<=Dy-Ay by omega)
  have a3:=mul_s4 (show c2<=0 by omega) (show Cy-By<=0 by omega)
  have a4:=mul_s3 (show 0<=c1 by omega) (show Dy-By<=0 by omega)
  omega
 ·have z := z (by omega)
  have a1:=mul_s1 (show 0<=c2 by omega) (show 0<=Cy-Ay by omega)
  have a2:=mul_s2 (show c1<=0 by omega) (show 0<=Dy-Ay by omega)
  have a3:=mul_s3 (show 0<=c2 by omega) (show Cy-By<=0 by omega)
  have a4:=mul_s4 (show c1<=0 by omega) (show Dy-By<=0 by omega)
  omega
theorem lines_bc(h:linesZ Ax Ay Bx By Cx Cy Dx Dy=0)(up:Ay<By)(c:Ay<=Cy/\Cy<=By)(b:Cy<=By/\By<=Dy)(up':Cy<Dy)(n1:¬crI Ax Ay Bx By Cx Cy=0)(n2:¬crI Cx Cy Dx Dy Bx By=0):(0<crI Cx Cy Dx Dy Bx By <-> ¬0<crI Ax Ay Bx By Cx Cy):=by
 have y1:=yy1 (Ax:=Ax) (Ay:=Ay) (Bx:=Bx) (By:=By) (Cx:=Cx) (Cy:=Cy) (Dx:=Dx) (Dy:=Dy)
 have y2:=yy2 (Ax:=Ax) (Ay:=Ay) (Bx:=Bx) (By:=By) (Cx:=Cx) (Cy:=Cy) (Dx:=Dx) (Dy:=Dy)
 have z:=lines_z h
 generalize crI Ax Ay Bx By Cx Cy=c1 at *
 generalize crI Ax Ay Bx By Dx Dy=c2 at *
 generalize crI Cx Cy Dx Dy Ax Ay=d1 at *
 generalize crI Cx Cy Dx Dy Bx By=d2 at *
 have k1:=sg_l (x:=d1) (show 0<By-Ay by omega)
 have k2:=sg_l (x:=d2) (show 0<By-Ay by omega)
 refine iff_no (fun h1 h2=>?_) (fun h1 h2=>?_)
 ·have h2 : 0 < c1 := Classical.not_not.1 h2
  have a4:=mul_s1 (show 0<=c1 by omega) (show 0<=Dy-By by omega)
  have hc2:c2<0:=by
   rcases Int.lt_or_le c2 0 with g|g
   ·exact g
   ·have:=mul_s3 g (show Cy-By<=0 by omega);omega
  have a1:=mul_s2 (show c2<=0 by omega) (show 0<=Cy-Ay by omega)
  have a2:=Int.mul_pos h2 (show 0<Dy-Ay by omega)
  have z:=z (by omega)
  omega
 ·have h1 : c1 < 0 := by omega
  have a4:=mul_s2 (show c1<=0 by omega) (show 0<=Dy-By by omega)
  have hc2:0<c2:=by
   rcases Int.lt_or_le 0 c2 with g|g
   ·exact g
   ·have:=mul_s4 g (show Cy-By<=0 by omega);omega
  have a1:=mul_s1 (show 0<=c2 by omega) (show 0<=Cy-Ay by omega)
  have a2:=Int.mul_neg_of_neg_of_pos h1 (show 0<Dy-Ay by omega)
  have z:=z (by omega)
  omega
theorem lines_ad(h:linesZ Ax Ay Bx By Cx Cy Dx Dy=0)(up:Ay<By)(d:Ay<=Dy/\Dy<=By)(a:Cy<=Ay/\Ay<=Dy)(up':Cy<Dy)(n1:¬crI Ax Ay Bx By Dx Dy=0)(n2:¬crI Cx Cy Dx Dy Ax Ay=0):(0<crI Cx Cy Dx Dy Ax Ay <-> ¬0<crI Ax Ay Bx By Dx Dy):=by
 have y1:=yy1 (Ax:=Ax) (Ay:=Ay) (Bx:=Bx) (By:=By) (Cx:=Cx) (Cy:=Cy) (Dx:=Dx) (Dy:=Dy)
 have y2:=yy2 (Ax:=Ax) (Ay:=Ay) (Bx:=Bx) (By:=By) (Cx:=Cx) (Cy:=Cy) (Dx:=Dx) (Dy:=Dy)
 have z:=lines_z h
 generalize crI Ax Ay Bx By Cx Cy=c1 at *
 generalize crI Ax Ay Bx By Dx Dy=c2 at *
 generalize crI Cx Cy Dx Dy Ax Ay=d1 at *
 generalize crI Cx Cy Dx Dy Bx By=d2 at *
 have k1:=sg_l (x:=d1) (show 0<By-Ay by omega)
 have k2:=sg_l (x:=d2) (show 0<By-Ay by omega)
 refine iff_no (fun h1 h2=>?_) (fun h1 h2=>?_)
 ·have h2 : 0 < c2 := Classical.not_not.1 h2
  have a4:=mul_s3 (show 0<=c2 by omega) (show Cy-Ay<=0 by omega)
  have hc1:c1<0:=by
   rcases Int.lt_or_le c1 0 with g|g
   ·exact g
   ·have:=mul_s1 g (show 0<=Dy-Ay by omega);omega
  have a1:=Int.mul_neg_of_pos_of_neg h2 (show Cy-By<0 by omega)
  have a2:=mul_s4 (show c1<=0 by omega) (show Dy-By<=0 by omega)
  have z:=z (by omega)
  omega
 ·have h1 : c2 < 0 := by omega
  have a4:=mul_s4 (show c2<=0 by omega) (show Cy-Ay<=0 by omega)
  have hc1:0<c1:=by
   rcases Int.lt_or_le 0 c1 with g|g
   ·exact g
   ·have:=mul_s2 g (show 0<=Dy-Ay by omega);omega
  have a1:0<c2*(Cy-By):=by have:=Int.mul_pos (show 0 < -c2 by omega) (show 0 < -(Cy-By) by omega);rwa [Int.neg_mul_neg] at this
  have a2:=mul_s3 (show 0<=c1 by omega) (show Dy-By<=0 by omega)
  have z:=z (by omega)
  omega
end
end
theorem bey_up{l:Ed}{x y:Int}(ol:l.ok=true)(kl:l.k=1)(hoff:onE l x y=false)(hy:InY l y)(up:l.ay<l.by'):¬crI l.ax l.ay l.bx l.by' x y=0/\(beyZ l x y=true <-> 0<crI l.ax l.ay l.bx l.by' x y) :=
 bey_line ol kl hoff hy (.inl rfl) (by omega) (by unfold crI;grind)
theorem crI_a{px py qx qy rx:Int}:crI px py qx qy rx py=(px-rx)*(qy-py):=by unfold crI;grind
theorem crI_b{px py qx qy rx:Int}:crI px py qx qy rx qy=(qx-rx)*(qy-py):=by unfold crI;grind
theorem not_of{u v:Bool}{P Q:Prop}(h1:u=true <-> P)(h2:v=true <-> Q)(h:P <-> ¬Q):u=!v:=bne_of h1 h2 h
theorem count_lines{l m:Ed}(ol:l.ok=true)(om:m.ok=true)(kl:l.k=1)(km:m.k=1)(pl:l.pt=false)(pm:m.pt=false)(hm:countE l m=0):linesZ l.ax l.ay l.bx l.by' m.ax m.ay m.bx m.by'=0:=by
 unfold countE at hm
 rw[ol,om,if_pos kl,if_pos km,pl,pm] at hm
 simpa using hm
theorem flat_key{l m:Ed}(ol:l.ok=true)(om:m.ok=true)(kl:l.k=1)(km:m.k=1)(hm:countE l m=0)(h0:l.by'=l.ay)(um:m.ay<=m.by')(k1:InY m l.ay->InY m l.by'->beyZ m l.ax l.ay=beyZ m l.bx l.by'):Key l m:=by
 have hm':=(countE_comm l m).trans hm
 refine⟨k1,fun h1 h2=>?_,fun tx ty sx sy h1 h2 h3 h4=>?_⟩
 ·have o1 := off_of hm' (end_a om)
  have o2:=off_of hm' (end_b om)
  obtain⟨a1,a2,a3⟩:=bey_flat ol kl o1 h1 h0
  obtain⟨b1,b2,b3⟩:=bey_flat ol kl o2 h2 h0
  have o3:=off_of hm (end_a ol)
  have hin:¬(min m.ax m.bx<=l.ax/\l.ax<=max m.ax m.bx):=fun g=>by
   have:=onE_line_mk (e:=m) (x:=l.ax) (y:=l.ay) km om (by unfold Btw;omega) (by unfold Btw;omega) (by rw[a1,b1];simp)
   rw[o3] at this;cases this
  exact beq_of a3 b3 (by omega)
 ·have oT := off_of hm (h1.on ol)
  have oS:=off_of hm' (h2.on om)
  obtain⟨a1,a2,a3⟩:=bey_flat ol kl oS h4 h0
  have ety:ty=l.ay:=by unfold EndOf at h1;omega
  have htx:min l.ax l.bx<=tx/\tx<=max l.ax l.bx:=by unfold EndOf at h1;omega
  by_cases hf:m.by'=m.ay
  ·obtain ⟨b1, b2, b3⟩ := bey_flat om km oT h3 hf
   have hsx:min m.ax m.bx<=sx/\sx<=max m.ax m.bx:=by unfold EndOf at h2;omega
   refine not_of b3 a3 ?_
   have onl:∀x,min l.ax l.bx<=x->x<=max l.ax l.bx->onE l x l.ay=true:=fun x g1 g2=>onE_line_mk kl ol (by unfold Btw;omega) (by unfold Btw;omega) (by rw[h0];simp)
   have d1:¬(min l.ax l.bx<=m.ax/\m.ax<=max l.ax l.bx):=fun g=>by
    have:=onl _ g.1 g.2
    have:=common_point this (by rw[show l.ay=m.ay by omega];exact end_a om)
    exact this hm
   have d2:¬(min l.ax l.bx<=m.bx/\m.bx<=max l.ax l.bx):=fun g=>by
    have:=onl _ g.1 g.2
    have:=common_point this (by rw[show l.ay=m.by' by omega];exact end_b om)
    exact this hm
   unfold EndOf at h2
   omega
  ·obtain ⟨c0, jb⟩ := bey_up om km oT h3 (by omega)
   refine not_of jb a3 ?_
   have up:0<m.by'-m.ay:=by omega
   have lv:ty=sy:=by omega
   unfold EndOf at h2
   rcases h2 with⟨e1,e2⟩|⟨e1,e2⟩
   ·rw[lv,e2,crI_a,(sg_l up).1];omega
   ·rw[lv,e2,crI_b,(sg_l up).1];omega
theorem lines_key0{l m:Ed}(ol:l.ok=true)(om:m.ok=true)(kl:l.k=1)(km:m.k=1)(pl:l.pt=false)(pm:m.pt=false)(hm:countE l m=0)(ul:l.ay<=l.by')(um:m.ay<=m.by'):Key l m:=by
 have hm':=(countE_comm l m).trans hm
 have z1:=count_lines ol om kl km pl pm hm
 have z2:=count_lines om ol km kl pm pl hm'
 have K:∀ {l m:Ed},l.ok=true->m.ok=true->l.k=1->m.k=1->countE l m=0->linesZ m.ax m.ay m.bx m.by' l.ax l.ay l.bx l.by'=0->l.ay<=l.by'->m.ay<m.by'->InY m l.ay->InY m l.by'->beyZ m l.ax l.ay=beyZ m l.bx l.by':=fun ol om kl km hm z ul um h1 h2=>by
  obtain⟨c0,j0⟩:=bey_up om km (off_of hm (end_a ol)) h1 um
  obtain⟨c1,j1⟩:=bey_up om km (off_of hm (end_b ol)) h2 um
  unfold InY at h1 h2
  exact beq_of j0 j1 (lines_1 z um (by omega) (by omega) c0 c1)
 by_cases fl:l.by'=l.ay
 ·refine flat_key ol om kl km hm fl um fun h1 h2 => ?_
  by_cases fm:m.by'=m.ay
  ·obtain ⟨a1, a2, a3⟩ := bey_flat om km (off_of hm (end_a ol)) h1 fm
   obtain⟨b1,b2,b3⟩:=bey_flat om km (off_of hm (end_b ol)) h2 fm
   have hin:¬(min l.ax l.bx<=m.ax/\m.ax<=max l.ax l.bx):=fun g=>by
    have:=onE_line_mk (e:=l) (x:=m.ax) (y:=m.ay) kl ol (by unfold Btw;omega) (by unfold Btw;omega) (by rw[fl,a1];simp)
    exact common_point this (end_a om) hm
   exact beq_of a3 b3 (by omega)
  ·exact K ol om kl km hm z2 ul (by omega) h1 h2
 ·by_cases fm : m.by' = m.ay
  ·exact (flat_key om ol km kl hm' fm ul fun h1 h2=>K om ol km kl hm' z1 um (by omega) h1 h2).swap
  ·have lu : l.ay < l.by' := by omega
   have mu:m.ay<m.by':=by omega
   refine⟨K ol om kl km hm z2 ul mu,K om ol km kl hm' z1 um lu,fun tx ty sx sy h1 h2 h3 h4=>?_⟩
   obtain⟨c0,jb⟩:=bey_up om km (off_of hm (h1.on ol)) h3 mu
   obtain⟨d0,ja⟩:=bey_up ol kl (off_of hm' (h2.on om)) h4 lu
   refine not_of jb ja ?_
   have um0:0<m.by'-m.ay:=by omega
   have ul0:0<l.by'-l.ay:=by omega
   unfold InY at h3 h4
   unfold EndOf at h1 h2
   rcases h1 with⟨e1,e2⟩|⟨e1,e2⟩<;>rcases h2 with⟨e3,e4⟩|⟨e3,e4⟩<;>subst e1<;>subst e2<;>subst e3<;>subst e4
   ·have e : l.ay = m.ay := by omega
    have g1:crI m.ax m.ay m.bx m.by' l.ax l.ay=(m.ax-l.ax)*(m.by'-m.ay):=by rw[e];exact crI_a
    have g2:crI l.ax l.ay l.bx l.by' m.ax m.ay=(l.ax-m.ax)*(l.by'-l.ay):=by rw[<- e];exact crI_a
    rw[g1] at c0 ⊢
    rw[g2,(sg_l um0).1,(sg_l ul0).1]
    have:=(sg_l (x:=m.ax-l.ax) um0).2.2
    omega
   ·exact lines_ad z1 lu (by omega) (by omega) mu d0 c0
   ·exact lines_bc z1 lu (by omega) (by omega) mu d0 c0
   ·have e : l.by' = m.by' := by omega
    have g1:crI m.ax m.ay m.bx m.by' l.bx l.by'=(m.bx-l.bx)*(m.by'-m.ay):=by rw[e];exact crI_b
    have g2:crI l.ax l.ay l.bx l.by' m.bx m.by'=(l.bx-m.bx)*(l.by'-l.ay):=by rw[<- e];exact crI_b
    rw[g1] at c0 ⊢
    rw[g2,(sg_l um0).1,(sg_l ul0).1]
    have:=(sg_l (x:=m.bx-l.bx) um0).2.2
    omega
theorem rev_ptJ{l:Ed}:(revE l).pt=l.pt:=by
 unfold Ed.pt revE
 simp only
 rw[Bool.eq_iff_iff]
 simp only[Bool.and_eq_true,beq_iff_eq]
 omega
theorem lines_key{l m:Ed}(ol:l.ok=true)(om:m.ok=true)(kl:l.k=1)(km:m.k=1)(pl:l.pt=false)(pm:m.pt=false)(hm:countE l m=0):Key l m:=by
 have rk:∀ {e:Ed},e.k=1->(revE e).k=1:=fun h=>by unfold revE;rw[h];rfl
 have step:∀ {l m:Ed},l.ok=true->m.ok=true->l.k=1->m.k=1->l.pt=false->m.pt=false->countE l m=0->m.ay<=m.by'->Key l m:=fun {l m} ol om kl km pl pm hm um=>by
  by_cases ul:l.ay<=l.by'
  ·exact lines_key0 ol om kl km pl pm hm ul um
  ·exact Key.of_rev ol kl (lines_key0 (rev_ok ol) om (rk kl) km (rev_ptJ.trans pl) pm ((countE_rev m ol).trans hm) (by unfold revE;simp only;omega) um)
 by_cases um:m.ay<=m.by'
 ·exact step ol om kl km pl pm hm um
 ·have hm' : countE l (revE m) = 0 := by rw [<- countE_comm, countE_rev l om, countE_comm, hm]
  exact (Key.of_rev om km (step ol (rev_ok om) kl (rk km) pl (rev_ptJ.trans pm) hm' (by unfold revE;simp only;omega)).swap).swap
theorem la_key{l e:Ed}(ol:l.ok=true)(oe:e.ok=true)(kl:l.k=1)(ke:¬e.k=1)(pl:l.pt=false)(hm:countE l e=0):Key l e:=by
 have hm':=(countE_comm l e).trans hm
 obtain⟨σ,τ,Q⟩:=qf_of oe ke
 have hc:crossZ l e=0:=by
  unfold countE at hm
  rw[ol,oe,if_pos kl,if_neg ke,pl] at hm
  simpa using hm
 have S0:0<sqI (l.bx-l.ax) (l.by'-l.ay):=by
  refine sqI_pos fun ⟨h1,h2⟩=>?_
  have:l.pt=true:=by unfold Ed.pt;simp only[Bool.and_eq_true,beq_iff_eq];omega
  rw[pl] at this;cases this
 have L:∀ {x y:Int},EndOf l x y->InY e y->∃w,Sd l e σ τ w/\beyZ e x y=(if σ=1 then !w else w):=fun h hy=>sd_end Q oe ke ol kl h (off_of hm (h.on ol)) hy
 have A:∀ {x y:Int},EndOf e x y->InY l y->∃w,Sd l e σ τ w/\beyZ l x y=(if σ=1 then w else !w):=fun h hy=>sd_lev Q ol kl h (off_of hm' (h.on oe)) hy
 refine⟨fun h1 h2=>?_,fun h1 h2=>?_,fun tx ty sx sy h1 h2 h3 h4=>?_⟩
 ·obtain ⟨w, s, j⟩ := L (.inl ⟨rfl, rfl⟩) h1
  obtain⟨v,t,i⟩:=L (.inr ⟨rfl,rfl⟩) h2
  rw[j,i,sd_eq Q S0 hc s t]
 ·obtain ⟨w, s, j⟩ := A (.inl ⟨rfl, rfl⟩) h1
  obtain⟨v,t,i⟩:=A (.inr ⟨rfl,rfl⟩) h2
  rw[j,i,sd_eq Q S0 hc s t]
 ·obtain ⟨w, s, j⟩ := L h1 h3
  obtain⟨v,t,i⟩:=A h2 h4
  rw[j,i,sd_eq Q S0 hc s t]
  split<;>simp
theorem keyE{e f:Ed}(oe:e.ok=true)(of:f.ok=true)(pe:e.pt=false\/¬e.k=1)(pf:f.pt=false\/¬f.k=1)(hm:countE e f=0):Key e f:=by
 have hm':=(countE_comm e f).trans hm
 by_cases ke:e.k=1
 ·have pe := pe.resolve_right fun h => h ke
  by_cases kf:f.k=1
  ·exact lines_key oe of ke kf pe (pf.resolve_right fun h=>h kf) hm
  ·exact la_key oe of ke kf pe hm
 ·by_cases kf : f.k = 1
  ·exact (la_key of oe kf ke (pf.resolve_right fun h=>h kf) hm').swap
  ·exact⟨arcs_k1 oe of ke kf hm,arcs_k1 of oe kf ke hm',fun tx ty sx sy h1 h2 h3 h4=>arcs_k2 oe of ke kf hm h1 h2 h3 h4⟩
def psi(e:Ed)(x y:Int):Int:=if e.ay<y/\y<=e.by'/\beyZ e x y=false then 1 else if e.by'<y/\y<=e.ay/\beyZ e x y=false then -1 else 0
theorem ray_psi{e f:Ed}(h:Key e f):rayZ f e.bx e.by'-rayZ f e.ax e.ay=psi e f.ax f.ay-psi e f.bx f.by':=by
 have k1:=h.k1
 have k2:=h.k1'
 have ac:=h.k2 _ _ _ _ (.inl ⟨rfl,rfl⟩) (.inl ⟨rfl,rfl⟩)
 have ad:=h.k2 _ _ _ _ (.inl ⟨rfl,rfl⟩) (.inr ⟨rfl,rfl⟩)
 have bc:=h.k2 _ _ _ _ (.inr ⟨rfl,rfl⟩) (.inl ⟨rfl,rfl⟩)
 have bd:=h.k2 _ _ _ _ (.inr ⟨rfl,rfl⟩) (.inr ⟨rfl,rfl⟩)
 unfold rayZ psi
 unfold InY at k1 k2 ac ad bc bd
 generalize e.ay=ya at *
 generalize e.by'=yb at *
 generalize f.ay=yc at *
 generalize f.by'=yd at *
 cases h1:beyZ f e.ax ya<;>cases h2:beyZ f e.bx yb<;>cases h3:beyZ e f.ax yc<;>cases h4:beyZ e f.bx yd<;>rw[h1,h2] at k1<;>rw[h3,h4] at k2<;>rw[h1,h3] at ac<;>rw[h1,h4] at ad<;>rw[h2,h3] at bc<;>rw[h2,h4] at bd <;>
  simp only[Bool.not_true,Bool.not_false,reduceCtorEq,imp_false,and_true,and_false,if_false,imp_true_iff,implies_true] at k1 k2 ac ad bc bd ⊢ <;>
  (repeat' split)<;>omega
theorem ray_pt{e f:Ed}(hp:e.ax=e.bx/\e.ay=e.by'):rayZ f e.bx e.by'-rayZ f e.ax e.ay=psi e f.ax f.ay-psi e f.bx f.by':=by
 have z:∀x y,psi e x y=0:=fun x y=>by unfold psi;rw[if_neg (by omega),if_neg (by omega)]
 rw[z,z,hp.1,hp.2];omega
theorem ray_ptf{e f:Ed}(hp:f.ax=f.bx/\f.ay=f.by'):rayZ f e.bx e.by'-rayZ f e.ax e.ay=psi e f.ax f.ay-psi e f.bx f.by':=by
 have z:∀x y,rayZ f x y=0:=fun x y=>by unfold rayZ;rw[if_neg (by omega),if_neg (by omega)]
 rw[z,z,hp.1,hp.2];omega
theorem pt_of{e:Ed}(h:e.pt=true):e.ax=e.bx/\e.ay=e.by':=by
 unfold Ed.pt at h
 simpa using h
theorem ray_same{e f:Ed}(oe:e.ok=true)(of:f.ok=true)(hm:countE e f=0):rayZ f e.bx e.by'-rayZ f e.ax e.ay=psi e f.ax f.ay-psi e f.bx f.by':=by
 cases pe:e.pt with
 | true=>exact ray_pt (pt_of pe)
 | false=>cases pf:f.pt with
  | true=>exact ray_ptf (pt_of pf)
  | false=>exact ray_psi (keyE oe of (.inl pe) (.inl pf) hm)
theorem wnd_psi{a:Nat->Ed}{e:Ed}:∀ {n:Nat},(∀k,k<=n->rayZ (a k) e.bx e.by'-rayZ (a k) e.ax e.ay=psi e (a k).ax (a k).ay-psi e (a k).bx (a k).by')->(∀k,k+1<=n->(a (k+1)).ax=(a k).bx/\(a (k+1)).ay=(a k).by') ->
  wnd a e.bx e.by' (n+1)-wnd a e.ax e.ay (n+1)=psi e (a 0).ax (a 0).ay-psi e (a n).bx (a n).by'
 | 0,h,_=>by
  have:=h 0 (Nat.le_refl _)
  unfold wnd wnd
  omega
 | n+1,h,ch=>by
  have ih:=wnd_psi (n:=n) (fun k hk=>h k (by omega)) (fun k hk=>ch k (by omega))
  have:=h (n+1) (Nat.le_refl _)
  obtain⟨c1,c2⟩:=ch n (Nat.le_refl _)
  rw[c1,c2] at this
  show wnd a e.bx e.by' (n+1)+rayZ (a (n+1)) e.bx e.by'-(wnd a e.ax e.ay (n+1)+rayZ (a (n+1)) e.ax e.ay)=_
  omega
theorem wnd_same{a:Nat->Ed}{e:Ed}{n:Nat}(oe:e.ok=true)(oa:∀k,k<=n->(a k).ok=true)(ch:∀k,k+1<=n->(a (k+1)).ax=(a k).bx/\(a (k+1)).ay=(a k).by')(cl:(a 0).ax=(a n).bx/\(a 0).ay=(a n).by')(hm:∀k,k<=n->countE (a k) e=0):wnd a e.bx e.by' (n+1)=wnd a e.ax e.ay (n+1):=by
 have:=wnd_psi (fun k hk=>ray_same oe (oa k hk) ((countE_comm (a k) e).trans (hm k hk))) ch
 rw[cl.1,cl.2] at this
 omega
theorem ge_iff{a s n d D:Int}:0<=cmpQ ⟨a,s,n,d⟩ (intQ D) <-> 0<=sideZ ((a-D)*d) (nz s n) (n*d):=by
 unfold cmpQ cmpR intQ
 simp only
 rw[show nz 1 0=0 from rfl]
 have:=side_bd2 ((a-D)*d) (nz s n) (n*d)
 split
 ·omega
 ·rename_i h
  rw[Classical.not_not.1 h]
  simp
theorem side_iff{x y d:Int}(hd:0<=d):0<=sideZ x y d <-> Su d x y:=⟨su_of_side hd,side_su hd⟩
theorem geO{r n d D:Int}(hr:0<=r)(hn:0<=n)(hd:0<d)(hD:0<=D):0<=cmpQ ⟨-r,1,n,d⟩ (intQ D) <-> (r+D)*(r+D)*d<=n:=by
 rw[ge_iff,side_iff (Int.mul_nonneg hn (Int.le_of_lt hd))]
 have e1:(-r-D)*d = -((r+D)*d):=by grind
 have e2 : -((r+D)*d) * -((r+D)*d)=(r+D)*(r+D)*d*d:=by rw[Int.neg_mul_neg];grind
 have p0:0<=(r+D)*d:=Int.mul_nonneg (by omega) (Int.le_of_lt hd)
 have p1:0<=(r+D)*(r+D)*d:=Int.mul_nonneg (sqz_nn _) (Int.le_of_lt hd)
 unfold Su
 rw[e1,e2]
 by_cases h0:n=0
 ·subst h0
  rw[nz0P rfl]
  simp only[Int.zero_mul,Int.mul_zero,Int.le_refl,true_and]
  constructor
  ·rintro (⟨h, _⟩ | h)
   ·have : (r + D) * d = 0 := by omega
    have:(r+D)*(r+D)*d=(r+D)*((r+D)*d):=by grind
    rw[this,‹(r+D)*d=0›];simp
   ·rcases Int.lt_or_le 0 ((r + D) * (r + D) * d) with g | g
    ·have:=Int.mul_pos g hd;omega
    ·exact g
  ·intro h
   right
   have:(r+D)*(r+D)*d=0:=by omega
   rw[this];simp
 ·rw [nz1P h0]
  have nd:0<n*d:=Int.mul_pos (by omega) hd
  constructor
  ·rintro (⟨h1, h2⟩ | ⟨_, h⟩)
   ·have : (r + D) * d = 0 := by omega
    have e3:(r+D)*(r+D)*d*d=(r+D)*d*((r+D)*d):=by grind
    rw[e3,this] at h2
    omega
   ·exact Int.le_of_mul_le_mul_right (by omega) hd
  ·intro h
   have:=Int.mul_le_mul_of_nonneg_right h (Int.le_of_lt hd)
   exact .inr ⟨by omega,by omega⟩
theorem geE{n d D:Int}(hn:0<=n)(hd:0<d)(hD:0<=D):0<=cmpQ ⟨0,1,n,d⟩ (intQ D) <-> D*D*d<=n:=by
 have:=geO (r:=0) (Int.le_refl 0) hn hd hD
 rwa [Int.zero_add,Int.neg_zero] at this
theorem geI{r n D:Int}(hn:0<=n):0<=cmpQ ⟨r,-1,n,1⟩ (intQ D) <-> D<=r/\n<=(r-D)*(r-D):=by
 rw[ge_iff,Int.mul_one,Int.mul_one,side_iff hn]
 have:=sqz_nn (r-D)
 unfold Su
 by_cases h0:n=0
 ·subst h0
  rw[nz0P rfl]
  simp only[Int.mul_zero,Int.le_refl,true_and]
  constructor
  ·rintro (h | h)
   ·omega
   ·have h : (r - D) * (r - D) = 0 := by omega
    have:r-D=0:=by rcases Int.mul_eq_zero.1 h with g|g<;>exact g
    omega
  ·intro h;left;omega
 ·rw[nz1P h0];omega
theorem far_arc{e:Ed}{x y D:Int}(ho:e.ok=true)(hk:¬e.k=1)(hoff:onE e x y=false)(hy:InY e y)(hb:beyZ e x y=true)(hD:0<=D)(hd:0<=cmpQ (pointQ e x y) (intQ D)):D<=max e.ax e.bx-x:=by
 obtain⟨σ,τ,Q⟩:=qf_of ho hk
 have s2:=pm_sq Q.s
 have t2:=pm_sq Q.t
 have r0:=Q.r0
 obtain⟨g0,g1⟩:=Q.strip hy
 obtain⟨jT,xT⟩:=bey_arc Q ho hk hoff g0 g1
 have hw:=jT.1 hb
 obtain⟨h,hh⟩:∃h,σ*(x-e.cx)=h:=⟨_,rfl⟩
 obtain⟨g,hg⟩:∃g,τ*(y-e.cy)=g:=⟨_,rfl⟩
 obtain⟨r,hr⟩:∃r,radZ e=r:=⟨_,rfl⟩
 have hn:sqI (x-e.cx) (y-e.cy)=h*h+g*g:=by unfold sqI;rw[<- hh,<- hg];grind
 rw[hh,hg,hr] at hw xT
 rw[hg] at g0
 rw[hg,hr] at g1
 rw[hr] at r0
 have hm:max e.ax e.bx=max e.cx (e.cx+σ*r):=by
  rw[<- hr]
  rcases Q.c with⟨_,_,_,_,c1,_,c2,_⟩|⟨_,_,_,_,c1,_,c2,_⟩<;>rw[c1,c2]<;>omega
 rw[hm]
 unfold pointQ at hd
 rw[if_neg hk] at hd
 have hh0:=sqz_nn h
 have gg0:=sqz_nn g
 have dd0:=sqz_nn D
 have hq:0<=h->¬(h=0/\g=0)->inQ e (x-e.cx) (y-e.cy)=true:=fun q1 q2=>by
  have pos:0<sqI (x-e.cx) (y-e.cy):=by
   have:=sqI_pos (x:=h) (y:=g) q2
   unfold sqI at this
   omega
  refine inQ_mk ho hk ?_ ?_ pos
  ·rcases Q.c with⟨u1,u2,v1,v2,_⟩|⟨u1,u2,v1,v2,_⟩<;>rw[u1,u2]<;>grind
  ·rcases Q.c with⟨u1,u2,v1,v2,_⟩|⟨u1,u2,v1,v2,_⟩<;>rw[v1,v2]<;>grind
 have sqlt:∀ {u v:Int},0<=v->u*u<=v*v->u<=v:=fun {u v} v0 huv=>by
  rcases Int.lt_or_le v u with f|f
  ·have:=Int.mul_lt_mul_of_pos_left f (show 0<u by omega);have:=Int.mul_le_mul_of_nonneg_right (Int.le_of_lt f) v0;omega
  ·exact f
 have hends:inQ e (x-e.cx) (y-e.cy)=false->D*D<=h*h+(r-g)*(r-g):=fun hf=>by
  unfold arcQ at hd
  rw[hf,if_neg (by decide)] at hd
  have eA:(sqI (x-e.ax) (y-e.ay)=(h-r)*(h-r)+g*g/\sqI (x-e.bx) (y-e.by')=h*h+(r-g)*(r-g))\/(sqI (x-e.bx) (y-e.by')=(h-r)*(h-r)+g*g/\sqI (x-e.ax) (y-e.ay)=h*h+(r-g)*(r-g)):=by
   unfold sqI
   rw[<- hh,<- hg,<- hr]
   rcases Q.c with⟨_,_,_,_,c1,c2,c3,c4⟩|⟨_,_,_,_,c1,c2,c3,c4⟩<;>rw[c1,c2,c3,c4]
   ·left;exact⟨by grind,by grind⟩
   ·right;exact⟨by grind,by grind⟩
  have n1:=sqI_nn (x-e.ax) (y-e.ay)
  have n2:=sqI_nn (x-e.bx) (y-e.by')
  split at hd
  ·have := (geE n2 (by decide) hD).1 hd
   omega
  ·have := (geE n1 (by decide) hD).1 hd
   omega
 have hzero:h=0/\g=0->inQ e (x-e.cx) (y-e.cy)=false:=fun ⟨q1,q2⟩=>by
  have z1:x-e.cx=0:=by rcases Q.s with f|f<;>rw[f] at hh<;>omega
  have z2:y-e.cy=0:=by rcases Q.t with f|f<;>rw[f] at hg<;>omega
  rw[z1,z2];simp[inQ]
 rcases hw with⟨rfl,hB⟩|⟨rfl,hB⟩
 ·
  rw[Int.one_mul] at hh
  suffices D<=r-h by omega
  have rh:h<=r:=by
   unfold Befo at hB
   rcases hB with hB|hB
   ·omega
   ·exact sqlt (by omega) (by omega)
  have ends:inQ e (x-e.cx) (y-e.cy)=false->h<=0->D<=r-h:=fun hf h0=>by
   refine sqlt (by omega) ?_
   have m1:=Int.mul_nonneg (show 0 <= -h by omega) (show 0<=r by omega)
   have m2:=sq_up (a:=r-g) (b:=r) (by omega) (by omega)
   have q:=hends hf
   grind
  by_cases h0:0<=h
  ·by_cases hz : h = 0 /\ g = 0
   ·exact ends (hzero hz) (by omega)
   ·have hin := hq h0 hz
    unfold arcQ at hd
    unfold Befo at hB
    rw[hin,if_pos rfl,hn,hr,if_neg (by omega)] at hd
    obtain⟨q1,q2⟩:=(geI (by omega)).1 hd
    have:=sqlt (u:=h) (v:=r-D) (by omega) (by omega)
    omega
  ·refine ends ?_ (by omega)
   cases hf:inQ e (x-e.cx) (y-e.cy) with
   | false=>rfl
   | true =>
    obtain⟨_,_,_,_,_,_,_,_,_,_,bT⟩:=arc_frame ho hk
    obtain⟨w1,w2⟩:=bT _ _ hf
    rcases Q.c with⟨u1,u2,v1,v2,_⟩|⟨u1,u2,v1,v2,_⟩
    ·rw[u1,u2] at w1;omega
    ·rw[v1,v2] at w2;omega
 ·
  suffices D<=h by omega
  obtain⟨h0,hB⟩:=hB
  have hin:inQ e (x-e.cx) (y-e.cy)=true:=hq h0 fun ⟨q1,q2⟩=>by
   rw[q1,q2] at hB
   have:=Int.mul_pos r0 r0
   omega
  unfold arcQ at hd
  rw[hin,if_pos rfl,hn,hr,if_pos (by omega)] at hd
  have:=(geO (Int.le_of_lt r0) (by omega) (by decide) hD).1 hd
  have m1:=Int.mul_nonneg (Int.le_of_lt r0) hD
  have m2:=sq_up g0 g1
  exact sqlt h0 (by grind)
theorem sq_leL{u v:Int}(v0:0<=v)(h:u*u<=v*v):u<=v:=by
 rcases Int.lt_or_le v u with f|f
 ·have:=Int.mul_lt_mul_of_pos_left f (show 0<u by omega);have:=Int.mul_le_mul_of_nonneg_right (Int.le_of_lt f) v0;omega
 ·exact f
theorem far_line{e:Ed}{x y D:Int}(ho:e.ok=true)(hk:e.k=1)(hoff:onE e x y=false)(hy:InY e y)(hb:beyZ e x y=true)(hD:0<=D)(hd:0<=cmpQ (pointQ e x y) (intQ D)):D<=max e.ax e.bx-x:=by
 unfold pointQ at hd
 rw[if_pos hk] at hd
 by_cases hp:e.bx-e.ax=0/\e.by'-e.ay=0
 ·obtain ⟨p1, p2⟩ := hp
  obtain⟨rfl,h1,h2⟩:=bey_flat ho hk hoff hy (by omega)
  have h3:=h2.1 hb
  unfold lineQ at hd
  rw[p1,p2,if_pos (by simp)] at hd
  have:=(geE (sqI_nn _ _) (by decide) hD).1 hd
  have e1:sqI (x-e.ax) (e.ay-e.ay)=(e.ax-x)*(e.ax-x):=by unfold sqI;grind
  rw[e1] at this
  have:=sq_leL (u:=D) (v:=e.ax-x) (by omega) (by omega)
  omega
 ·obtain ⟨k, w, k0, w0, jw, h1, h2, h3⟩ := line_lev ho hk hoff hy 0 0
  have hw:=jw.1 hb
  simp only[Int.sub_zero] at h1 h2 h3
  obtain⟨n,d,e1,n0,d0,hle⟩:=line_leK (e:=e) (x:=x) (y:=y) (a:=k*x+w-k*e.ax) (b:=k*y-k*e.ay) k0 h1 h2 h3 (fun z1 z2=>absurd ⟨z1,z2⟩ hp)
  rw[e1] at hd
  have hD2:=(geE n0 d0 hD).1 hd
  have e2:sqI (k*(x-e.ax)-(k*x+w-k*e.ax)) (k*(y-e.ay)-(k*y-k*e.ay))=w*w:=by unfold sqI;grind
  rw[e2] at hle
  obtain⟨q,hq⟩:∃q,sqI (e.bx-e.ax) (e.by'-e.ay)=q:=⟨_,rfl⟩
  have q0:0<q:=by rw[<- hq];exact sqI_pos hp
  obtain⟨T,hT⟩:∃T,(k*x+w-k*e.ax)*(e.bx-e.ax)+(k*y-k*e.ay)*(e.by'-e.ay)=T:=⟨_,rfl⟩
  obtain⟨a,ha⟩:∃a,k*x+w-k*e.ax=a:=⟨_,rfl⟩
  obtain⟨b,hb'⟩:∃b,k*y-k*e.ay=b:=⟨_,rfl⟩
  rw[hT] at h2 h3
  rw[ha,hb'] at h1 hT
  rw[hq] at h3
  have ea:q*a=T*(e.bx-e.ax):=by rw[<- hq,<- hT];unfold sqI;grind
  have up:a<=k*(max e.ax e.bx-e.ax):=by
   refine Int.le_of_mul_le_mul_left (a:=q) ?_ q0
   rcases Int.le_total 0 (e.bx-e.ax) with g|g
   ·have m1 := Int.mul_le_mul_of_nonneg_right h3 g
    rw[show max e.ax e.bx-e.ax=e.bx-e.ax by omega]
    have:q*(k*(e.bx-e.ax))=k*q*(e.bx-e.ax):=by grind
    omega
   ·have m1 := mul_s3 h2 g
    rw[show max e.ax e.bx-e.ax=0 by omega]
    omega
  have c1:=Int.mul_le_mul_of_nonneg_right hD2 (Int.le_of_lt (Int.mul_pos k0 k0))
  have c2:D*k*(D*k)<=w*w:=by
   refine Int.le_of_mul_le_mul_right (a:=d) ?_ d0
   have:D*k*(D*k)*d=D*D*d*(k*k):=by grind
   omega
  have c3:=sq_leL (Int.le_of_lt hw) c2
  have c4:D*k<=(max e.ax e.bx-x)*k:=by
   have:(max e.ax e.bx-x)*k=k*(max e.ax e.bx-e.ax)+k*e.ax-k*x:=by grind
   omega
  exact Int.le_of_mul_le_mul_right c4 k0
theorem far_edge{e:Ed}{x y D:Int}(ho:e.ok=true)(hoff:onE e x y=false)(hr:¬rayZ e x y=0)(hD:0<=D)(hd:0<=cmpQ (pointQ e x y) (intQ D)):D<=max e.ax e.bx-x:=by
 have h:InY e y/\beyZ e x y=true:=by
  unfold rayZ at hr
  unfold InY
  split at hr
  ·rename_i h;exact⟨by omega,h.2.2⟩
  ·split at hr
   ·rename_i h;exact⟨by omega,h.2.2⟩
   ·exact absurd rfl hr
 by_cases hk:e.k=1
 ·exact far_line ho hk hoff h.1 h.2 hD hd
 ·exact far_arc ho hk hoff h.1 h.2 hD hd
end Go.Proofs.YteajakbpmeebnaaGreat
