import Derived.Test.YteajakbpmeebnaaGreatH30
set_option linter.unusedVariables false
set_option linter.unusedSimpArgs false

namespace Go.Proofs.YteajakbpmeebnaaGreat
open Go.RowKit

section
attribute [local go_sem] Gives givesU
def movS(s:Sh)(x y t:Int)(m:Bool):Sh:=⟨s.k,s.n,fun i=>moveE (s.e i) x y (modZ t 4) m,s.r⟩
def ptE(e f:Nat->Ed)(k i:Nat):Ed:=if i<k then f i else e i
theorem rowL_congr{e e':Nat->Ed}:∀ {n:Nat},(∀i,i<n->e i=e' i)->rowL e n=rowL e' n
 | 0,_=>rfl
 | n+1,h=>by rw[rowL,rowL,rowL_congr fun i hi=>h i (by omega),h n (by omega)]
theorem rowL_split(e:Nat->Ed){k:Nat}:∀ {n:Nat},k<n->rowL e n=rowL e k++(edL (e k)++rowL (fun i=>e (k+1+i)) (n-k-1))
 | 0,h=>absurd h (Nat.not_lt_zero _)
 | n+1,h=>by
  by_cases hk:k=n
  ·subst hk
   rw[show k+1-k-1=0 by omega]
   simp[rowL]
  ·rw [show n + 1 - k - 1 = (n - k - 1) + 1 by omega, rowL, rowL, rowL_split e (show k < n by omega), show k + 1 + (n - k - 1) = n by omega]
   simp only[List.append_assoc]
theorem row_take(e:Nat->Ed){k n:Nat}(h:k<n)(sl:List Value):(rowL e n++sl).take (k*7)=rowL e k:=by
 rw[rowL_split e h,List.append_assoc,<- rowL_len e k,List.take_left]
theorem row_mid(e:Nat->Ed){k n:Nat}(h:k<n)(sl:List Value):((rowL e n++sl).drop (k*7)).take 7=edL (e k):=by
 rw[rowL_split e h,List.append_assoc,<- rowL_len e k,List.drop_left,List.append_assoc]
 exact List.take_left' rfl
theorem row_put(e f:Nat->Ed){k n:Nat}(h:k<n)(sl:List Value):(rowL (ptE e f k) n++sl).take (k*7)++(edL (f k)++(rowL (ptE e f k) n++sl).drop (k*7+(edL (f k)).length))=rowL (ptE e f (k+1)) n++sl:=by
 rw[row_take _ h,rowL_split (ptE e f (k+1)) h,rowL_split (ptE e f k) h,edL_len]
 rw[show rowL (ptE e f (k+1)) k=rowL (ptE e f k) k from rowL_congr fun i hi=>by unfold ptE;rw[if_pos (by omega),if_pos hi]]
 rw[show ptE e f (k+1) k=f k by unfold ptE;rw[if_pos (by omega)]]
 rw[show (fun i=>ptE e f (k+1) (k+1+i))=(fun i=>ptE e f k (k+1+i)) by funext i;unfold ptE;rw[if_neg (by omega),if_neg (by omega)]]
 simp only[List.append_assoc]
 congr 2
 rw[<- List.drop_drop,<- rowL_len (ptE e f k) k,List.drop_left]
 exact List.drop_left' rfl
theorem row_set{W:World}{B i:Nat}{xs:Array Value}{T:TypeId}(v:Value)(h:W.heap[B]? = some (.cells xs T)):(W.setCell ⟨B,i,none⟩ v).heap[B]? = some (.cells (xs.setIfInBounds i v) T):=by
 have hB:=(Array.getElem?_eq_some_iff.1 h).1
 have e:=(Array.getElem?_eq_some_iff.1 h).2
 rw[Array.getElem?_eq_some_iff]
 refine⟨by simpa[World.setCell] using hB,?_⟩
 simp only[World.setCell,Array.getElem_modify,if_true,e]
 simp
theorem row_oth{W:World}{B g i:Nat}(v:Value)(h:B≠g):(W.setCell ⟨B,i,none⟩ v).heap[g]? = W.heap[g]? := by
 simp[World.setCell,Array.getElem?_modify,h]
structure MI (w W:World) (s:Sh) (x y t:Int) (m:Bool) (g cp:Nat) (sl:List Value) (k:Nat):Prop where
 ex:Ext w W
 b2:W.heap[w.heap.size]? = some (.cells #[.int .i64 s.k,.slice (some ⟨g,0,none⟩) s.n cp,.int .i64 s.r] 30)
 b3:W.heap[w.heap.size+1]? = some (.cells #[.int .i64 x,.int .i64 y,.int .i64 t,.bool m] 62)
 b4:W.heap[w.heap.size+1+1]? = some (.cells #[.int .i64 0,.slice none 0 0,.int .i64 0] 30)
 bg:W.heap[g]? = some (.cells (rowL (ptE s.e (movS s x y t m).e k) s.n++sl).toArray 37)
 lt:w.heap.size+1+1<g
theorem MI.ext{w W W':World}{s:Sh}{x y t:Int}{m:Bool}{g cp:Nat}{sl:List Value}{k:Nat}(h:MI w W s x y t m g cp sl k)(hx:Ext W W'):MI w W' s x y t m g cp sl k:=⟨Ext.step h.ex hx,heap_ext h.b2 hx,heap_ext h.b3 hx,heap_ext h.b4 hx,heap_ext h.bg hx,h.lt⟩
theorem MI.cells{w W:World}{s:Sh}{x y t:Int}{m:Bool}{g cp:Nat}{sl:List Value}{k:Nat}(h:MI w W s x y t m g cp sl k):(W.cell? ⟨w.heap.size,0,none⟩=some (.int .i64 s.k)/\W.cell? ⟨w.heap.size,1,none⟩=some (.slice (some ⟨g,0,none⟩) s.n cp)/\W.cell? ⟨w.heap.size,2,none⟩=some (.int .i64 s.r)) /\
  W.cell? ⟨w.heap.size+1,0,none⟩=some (.int .i64 x)/\W.cell? ⟨w.heap.size+1,1,none⟩=some (.int .i64 y)/\W.cell? ⟨w.heap.size+1,2,none⟩=some (.int .i64 t)/\W.cell? ⟨w.heap.size+1,3,none⟩=some (.bool m):=by
 have e2:=h.b2
 have e3:=h.b3
 have c2:∀i,W.cell? ⟨w.heap.size,i,none⟩=(#[.int .i64 s.k,.slice (some ⟨g,0,none⟩) s.n cp,.int .i64 s.r]:Array Value)[i]? := fun i=>by rw[cell_of_row _ _ _ _ _ _ e2]
 have c3:∀i,W.cell? ⟨w.heap.size+1,i,none⟩=(#[.int .i64 x,.int .i64 y,.int .i64 t,.bool m]:Array Value)[i]? := fun i=>by rw[cell_of_row _ _ _ _ _ _ e3]
 exact⟨⟨(c2 0).trans rfl,(c2 1).trans rfl,(c2 2).trans rfl⟩,(c3 0).trans rfl,(c3 1).trans rfl,(c3 2).trans rfl,(c3 3).trans rfl⟩
theorem MI.edge{w W:World}{s:Sh}{x y t:Int}{m:Bool}{g cp:Nat}{sl:List Value}{k:Nat}(h:MI w W s x y t m g cp sl k)(hk:k<s.n):EdAt W g (k*7) (s.e k):=by
 have key:∀j u,(edL (s.e k))[j]? = some u->W.cell? ⟨g,k*7+j,none⟩=some u:=fun j u hu=>by
  have hj:j<7:=by have:=(List.getElem?_eq_some_iff.1 hu).1;simpa[edL] using this
  rw[cell_of_row _ _ _ _ _ _ h.bg]
  simp only[List.getElem?_toArray]
  rw[List.getElem?_append_left (by rw[rowL_len];omega),rowL_at _ _ _ _ hk hj]
  unfold ptE
  rw[if_neg (Nat.lt_irrefl _)]
  exact hu
 exact⟨key 0 _ rfl,key 1 _ rfl,key 2 _ rfl,key 3 _ rfl,key 4 _ rfl,key 5 _ rfl,key 6 _ rfl⟩
end

section
section
variable {P:Program} {ops:Array Oper} {S:World->Prop} {Q:Act->World->Prop} {tail:List Oper} {o:Oper} {l:List Oper} {a:Act} {own:List Nat} {F:World->Prop}
theorem T_run{v:Value}(hw:Region.wanted o (yielded ops a.tmps)=true)(hr:∀w,S w->(execOp a.eval o).run P w=.ok (.value v) w)(h:WpT P ops S Q tail l (a.put o.dst v) own F) :
  WpT P ops S Q tail (o::l) a own F:=.pure v (.inl ⟨hw,hr⟩) h
theorem T_call{v:Value}(hk:fkind o=2)(hw:Region.wanted o (yielded ops a.tmps)=true)
  (hg:∀w,F w->Gives P o a w (fun u w'=>u=v/\Below w.heap.size w w')) (h:WpT P ops S Q tail l (a.put o.dst v) own F):WpT P ops S Q tail (o::l) a own F:=by
 refine .eff hk hw Unit (fun _=>v) (fun _ _=>True) (fun _ _ _ h _=>h) (fun w hf=>(hg w hf).imp fun u w' h=>⟨(),h.1,h.2,trivial⟩) (fun t ht=>?_)
 have e:(fun w=>F w/\True)=F:=by funext w;simp
 rw[e]
 exact h
theorem T_done(h:WpF P ops (fun _=>True) Q tail a own F):WpT P ops S Q tail [] a own F:=h
end
end

set_option maxHeartbeats 4000000
set_option maxRecDepth 100000
section
attribute [local go_sem] Gives givesU
theorem mvCall{e:Ed}(h:e.ok=true){x y t:Int}(m:Bool)(hx:x.natAbs<=c26)(hy:y.natAbs<=c26)(ht : -8<=t/\t<=8)(W:World):Calls Tryz.prog 54 #[edA e,.agg #[.int .i64 x,.int .i64 y,.int .i64 t,.bool m]] W fun e' W'=>e'=.returned (edA (moveE e x y (modZ t 4) m))/\Ext W W':=by
 have c:c26<=9223372036854775807:=by decide
 have c8:8<=c26:=by decide
 refine (move_fok e x y t m h ht W _ (rvs_cons.2 ⟨_,edV_rep h,_,rfl,rvs_cons.2 ⟨_,rv_t.2 ⟨_,rl_i.2 ⟨⟨hx,by unfold I64;omega⟩,_,rfl,rl_i.2 ⟨⟨hy,by unfold I64;omega⟩,_,rfl,rl_i.2 ⟨⟨by omega,by unfold I64;omega⟩,_,rfl,rl_v.2 ⟨rfl,_,rfl,rfl⟩⟩⟩⟩,rfl⟩,_,rfl,rfl⟩⟩)).mono ?_
 rintro e' W' ⟨v,rfl,hv,hx⟩
 refine⟨?_,hx⟩
 have:=toEd_rep (l:=edI (moveE e x y (modZ t 4) m)) rfl hv
 rw[this]
 rfl
theorem moveE_I{e:Ed}(h:e.ok=true){x y t:Int}(m:Bool)(hx:x.natAbs<=c26)(hy:y.natAbs<=c26):EdI (moveE e x y (modZ t 4) m):=by
 have hk:=kind_of h
 obtain⟨⟨h1,h2⟩,⟨h3,h4⟩,h5,h6⟩:=ok_right h
 unfold Co at h1 h2 h3 h4 h5 h6
 have b:∀u v:Int,u.natAbs<=c26->v.natAbs<=c26->I64 (applyP x y (modZ t 4) m u v).1/\I64 (applyP x y (modZ t 4) m u v).2:=fun u v hu hv=>by
  obtain⟨b1,b2⟩:=applyQ_bd (ax:=x) (ay:=y) (n:=t) (x:=u) (y:=v) (m:=m) hx hy hu hv
  unfold c26 at b1 b2
  unfold applyQ at b1 b2
  unfold I64
  omega
 have c1:=b e.ax e.ay (by unfold c26;omega) (by unfold c26;omega)
 have c2:=b e.bx e.by' (by unfold c26;omega) (by unfold c26;omega)
 have c3:=b e.cx e.cy (by unfold c26;omega) (by unfold c26;omega)
 have k0:I64 (if m then (fam e.k).k else e.k):=by
  rcases hk with k|k|k<;>rw[k]<;>cases m<;>(unfold I64;decide)
 refine⟨k0,c1.1,c1.2,c2.1,c2.2,?_,?_⟩
 ·show I64 (if e.k = 1 then e.cx else _)
  split
  ·unfold I64;omega
  ·exact c3.1
 ·show I64 (if e.k = 1 then e.cy else _)
  split
  ·unfold I64;omega
  ·exact c3.2
theorem shMove(s:Sh)(x y t:Int)(m:Bool)(p:Option Addr)(c:Nat)(w:World)(h:ShAt w s p c)(h1:1<=s.n)(hn:s.n<=1000)(hok:∀i,i<s.n->(s.e i).ok=true)(hx:x.natAbs<=c26)(hy:y.natAbs<=c26)(ht : -8<=t/\t<=8) :
  Calls Tryz.prog 22 #[.agg #[.int .i64 s.k,.slice p s.n c,.int .i64 s.r],.agg #[.int .i64 x,.int .i64 y,.int .i64 t,.bool m]] w fun e w'=>∃g cp,e=.returned (.agg #[.int .i64 s.k,.slice (some ⟨g,0,none⟩) s.n cp,.int .i64 s.r])/\ShAt w' (movS s x y t m) (some ⟨g,0,none⟩) cp/\Ext w w':=by
 have CL:=Lib.hid (fun W (hW:Ext w W)=>cloneEd s.n s.e p c W (h.ext hW).edr h1 hn)
 have MV:=Lib.hid (fun k (hk:k<s.n) W=>mvCall (hok k hk) m hx hy ht W)
 have OK:=Lib.hid (fun i (hi:i<s.n)=>moveE_I (hok i hi) m hx hy (t:=t))
 have H:=Lib.hid h
 have X0:Ext w (((w.alloc (.cells #[.int .i64 s.k,.slice p s.n c,.int .i64 s.r] 30)).alloc (.cells #[.int .i64 x,.int .i64 y,.int .i64 t,.bool m] 62)).alloc (.cells #[.int .i64 0,.slice none 0 0,.int .i64 0] 30)):=bxx
 have X0:=Lib.hid X0
 clear h hok hx hy ht
 go_enter Tryz.func22,Tryz.ntmps22
 go_wp2_with fail
 refine (CL.out _ X0.out).mono ?_
 rintro e W1 ⟨_,rfl,g,cp,cur,rfl,hg,hc,hcp,hmx,htk,hx1⟩
 have M0:MI w (W1.setCell ⟨w.heap.size,1,none⟩ (.slice (some ⟨g,0,none⟩) s.n cp)) s x y t m g cp (cur.toList.drop (s.n*7)) 0:=by
  have a0:=World.alloc_heap_new w (.cells #[.int .i64 s.k,.slice p s.n c,.int .i64 s.r] 30)
  have a1:=World.alloc_heap_new (w.alloc (.cells #[.int .i64 s.k,.slice p s.n c,.int .i64 s.r] 30)) (.cells #[.int .i64 x,.int .i64 y,.int .i64 t,.bool m] 62)
  have a2:=World.alloc_heap_new ((w.alloc (.cells #[.int .i64 s.k,.slice p s.n c,.int .i64 s.r] 30)).alloc (.cells #[.int .i64 x,.int .i64 y,.int .i64 t,.bool m] 62)) (.cells #[.int .i64 0,.slice none 0 0,.int .i64 0] 30)
  have b0:=heap_ext (heap_ext (heap_ext a0 (below_alloc _ _)) (below_alloc _ _)) hx1
  have b1:=heap_ext (heap_ext a1 (below_alloc _ _)) hx1
  have b2:=heap_ext a2 hx1
  simp only[World.size_alloc] at b1 b2 hg
  have hlt:w.heap.size+1+1<g:=by omega
  refine⟨(Ext.step X0.out hx1).setCell (p:=⟨w.heap.size,1,none⟩) (Nat.le_refl _) _,?_,?_,?_,?_,hlt⟩
  ·exact row_set _ b0
  ·exact (row_oth _ (by omega)).trans b1
  ·exact (row_oth _ (by omega)).trans b2
  ·refine (row_oth _ (by omega)).trans ?_
   rw[hc,show rowL (ptE s.e (movS s x y t m).e 0) s.n=rowL s.e s.n from rowL_congr fun i _=>if_neg (Nat.not_lt_zero _),<- htk,List.take_append_drop]
 have HM:=Lib.hid M0
 have FN:=Lib.hid hcp
 have FX:=Lib.hid hmx
 clear M0 hc hcp hmx htk hg
 obtain⟨sl,hsl⟩:∃sl,cur.toList.drop (s.n*7)=sl:=⟨_,rfl⟩
 rw[hsl] at HM
 clear hsl
 rename_i K1 HK1 K2 HK2
 have hp1:w.heap.size+1+1<W1.heap.size:=by have:=hx1.size;simp at this;omega
 have c1:W1.heap[w.heap.size]? = some (.cells #[.int .i64 s.k,.slice p s.n c,.int .i64 s.r] 30):=heap_ext (heap_ext (heap_ext (World.alloc_heap_new w _) (below_alloc _ _)) (below_alloc _ _)) hx1
 have fz:W1.frozen? ⟨w.heap.size,1,none⟩=false:=by simp[World.frozen?,c1]
 have k1:W1.cell? ⟨w.heap.size,1,none⟩=some (.slice p s.n c):=by rw[cell_of_row _ _ _ _ _ _ c1];simp
 clear c1
 clear hx1 X0
 go_wp2
 go_loopw [13] (fun i wr=>∃k:Nat,i=.int .i64 (k:Int)/\k<=s.n/\MI w wr s x y t m g cp sl k) (fun i _=>s.n-(intOf i).toNat)
 case atStart=>exact⟨0,rfl,Nat.zero_le _,HM.out⟩
 case round =>
  obtain⟨k,rfl,hk,hM⟩:=hrel
  clear HM fz k1 hp1
  by_cases hlt:k<s.n
  ·obtain ⟨⟨a0, a1, a2⟩, a3, a4, a5, a6⟩ := hM.cells
   have hE:=hM.edge hlt
   have ix0:0<=(k:Int):=by omega
   have ix2:(k:Int)<(s.n:Int):=by omega
   have HM:=Lib.hid hM
   clear hM
   have CC:=Lib.hid (fun W (hW:Ext wr W)=>And.intro (HM.out.ext hW).cells ((HM.out.ext hW).edge hlt))
   obtain⟨mv,hmv⟩:∃mv,moveE (s.e k) x y (modZ t 4) m=mv:=⟨_,rfl⟩
   have MVk:=MV.out k hlt
   rw[hmv] at MVk
   unfold edA at MVk
   have MVk:=Lib.hid MVk
   have EM:=Lib.hid hmv
   clear hmv
   go_upto_region 5 with (fail)
   refine wp_region_T 11 (fun W=>Ext wr W) (by kernel_rfl) (by kernel_rfl) (by kernel_rfl) (Below.refl _ _) (fun W W' h hb=>Ext.step h hb) (fun W h=>h.size) ?_
   simp only[List.take_succ_cons,List.take_zero,List.drop_succ_cons,List.drop_zero]
   repeat (refine T_run (v:=?_) (by rfl) ?_ ?_;rotate_left;(· (intro W hW;obtain⟨⟨⟨a0,a1,a2⟩,a3,a4,a5,a6⟩,e0,e1,e2,e3,e4,e5,e6⟩:=CC.out W hW;go_simp;try with_reducible rfl));simp only[Act.put,List.setIfInBounds_toArray,List.set_cons_zero,List.set_cons_succ])
   (refine T_call (v:=.agg #[.int .i64 mv.k,.int .i64 mv.ax,.int .i64 mv.ay,.int .i64 mv.bx,.int .i64 mv.by',.int .i64 mv.cx,.int .i64 mv.cy]) (by rfl) (by rfl) ?_ ?_;(· (intro W hW;(try dsimp only at hW);go_simp;refine (MVk.out _).mono ?_;rintro e w' ⟨rfl,hx⟩;exact⟨_,rfl,rfl,hx⟩)));simp only[Act.put,List.setIfInBounds_toArray,List.set_cons_zero,List.set_cons_succ]
   repeat (refine T_run (v:=?_) (by rfl) ?_ ?_;rotate_left;(· (intro W hW;obtain⟨⟨⟨a0,a1,a2⟩,a3,a4,a5,a6⟩,e0,e1,e2,e3,e4,e5,e6⟩:=CC.out W hW;go_simp;try with_reducible rfl));simp only[Act.put,List.setIfInBounds_toArray,List.set_cons_zero,List.set_cons_succ])
   refine T_done ?_
   refine F_store (fun W=>MI w W s x y t m g cp sl (k+1)) (fun W W' h hb=>h.ext hb) (fun _ _=>trivial) (by rfl) (by rfl) (fun W hW=>?_) ?_
   ·have M := HM.out.ext hW
    have hb:=M.bg
    have hf:(movS s x y t m).e k=mv:=EM.out
    have hp:=row_put s.e (movS s x y t m).e hlt sl
    rw[hf] at hp
    obtain⟨o1,o2⟩:=onlyB_setRow (cs':=((rowL (ptE s.e (movS s x y t m).e k) s.n++sl).take (k*7)++(edL mv++(rowL (ptE s.e (movS s x y t m).e k) s.n++sl).drop (k*7+(edL mv).length))).toArray) hb
    refine gives_skip (W:=W.setRow g ((rowL (ptE s.e (movS s x y t m).e k) s.n++sl).take (k*7)++(edL mv++(rowL (ptE s.e (movS s x y t m).e k) s.n++sl).drop (k*7+(edL mv).length))).toArray) (ex_store (vs:=edL mv) rfl (by rfl) hb (by rfl) (n:=7) (by kernel_rfl) rfl (by rw[List.length_append,rowL_len,edL_len];omega) (edL_one mv)) ⟨rfl,by rw[o1.size];exact Nat.le_refl _,?_⟩
    have hl:=M.lt
    exact⟨M.ex.trans (o1.below (by omega)),(o1.block _ (by omega)).trans M.b2,(o1.block _ (by omega)).trans M.b3,(o1.block _ (by omega)).trans M.b4,o2.trans (by rw[hp]),hl⟩
   ·rintro W ⟨hM', _⟩
    have HM2:=Lib.hid hM'
    clear hM'
    have wk:IntKind.i64.wrap ((k:Int)+1)=((k+1:Nat):Int):=by rw[wrap_in (by unfold I64;omega)];omega
    go_wp2
    exact⟨⟨k+1,by simp,by omega,HM2.out⟩,by simp[intOf];omega⟩
  ·obtain rfl : k = s.n := by omega
   have ix:¬((s.n:Int)<(s.n:Int)):=by omega
   obtain⟨⟨a0,a1,a2⟩,a3,a4,a5,a6⟩:=hM.cells
   have e4:=hM.b4
   have d0:wr.cell? ⟨w.heap.size+1+1,0,none⟩=some (.int .i64 0):=by rw[cell_of_row _ _ _ _ _ _ e4];rfl
   have d1:wr.cell? ⟨w.heap.size+1+1,1,none⟩=some (.slice none 0 0):=by rw[cell_of_row _ _ _ _ _ _ e4];rfl
   have d2:wr.cell? ⟨w.heap.size+1+1,2,none⟩=some (.int .i64 0):=by rw[cell_of_row _ _ _ _ _ _ e4];rfl
   have f4:∀o,wr.frozen? ⟨w.heap.size+1+1,o,none⟩=false:=fun o=>by simp[World.frozen?,e4]
   have HM:=Lib.hid hM
   clear hM e4
   go_wp2
   refine bodyPost_ret (v:=.agg #[.int .i64 s.k,.slice (some ⟨g,0,none⟩) s.n cp,.int .i64 s.r]) (by simp only[results,Tryz.results22];go_simp) rfl ?_
   have M:=HM.out
   have hl:=M.lt
   refine⟨g,cp,rfl,?_,?_⟩
   ·have hs := H.out
    refine⟨hs.k,hs.r,FN.out,FX.out,_,cp,rfl,FN.out,FX.out,fun i hi=>?_⟩
    have hi:i<s.n:=hi
    have hb:(((wr.setCell ⟨w.heap.size+1+1,0,none⟩ (.int .i64 s.k)).setCell ⟨w.heap.size+1+1,1,none⟩ (.slice (some ⟨g,0,none⟩) s.n cp)).setCell ⟨w.heap.size+1+1,2,none⟩ (.int .i64 s.r)).heap[g]? = some (.cells (rowL (ptE s.e (movS s x y t m).e s.n) s.n++sl).toArray 37):=by
     rw[row_oth _ (by omega),row_oth _ (by omega),row_oth _ (by omega)];exact M.bg
    refine⟨g,0,_,(37,(0,0)),rfl,hb,by simp only[List.size_toArray,List.length_append,rowL_len];have:=Nat.mul_le_mul_right 7 (show i<=s.n by omega);omega,edL ((movS s x y t m).e i),((rowL (ptE s.e (movS s x y t m).e s.n) s.n++sl).drop (i*7)).drop 7,?_,?_⟩
    ·have := row_mid (ptE s.e (movS s x y t m).e s.n) hi sl
     rw[show ptE s.e (movS s x y t m).e s.n i=(movS s x y t m).e i from if_pos hi] at this
     show (rowL (ptE s.e (movS s x y t m).e s.n) s.n++sl).drop (0+i*7)=_
     rw[Nat.zero_add,<- this]
     exact (List.take_append_drop 7 _).symm
    ·exact (OK.out i hi).rep _
   ·exact (((M.ex.setCell (p:=⟨w.heap.size+1+1,0,none⟩) (by show w.heap.size<=w.heap.size+1+1;omega) _).setCell (p:=⟨w.heap.size+1+1,1,none⟩) (by show w.heap.size<=w.heap.size+1+1;omega) _).setCell (p:=⟨w.heap.size+1+1,2,none⟩) (by show w.heap.size<=w.heap.size+1+1;omega) _)
end

set_option maxHeartbeats 4000000
set_option maxRecDepth 100000
section
attribute [local go_sem] Gives givesU
theorem moveC(s:Sh){x y t:Int}(m:Bool)(h1:1<=s.n)(hn:s.n<=1000)(hok:∀i,i<s.n->(s.e i).ok=true)(hx:x.natAbs<=c26)(hy:y.natAbs<=c26)(ht : -8<=t/\t<=8)(v:Value)(W:World)(hv:RepV W W (fun _=>0) 0 (shpV s) v) :
  Calls Tryz.prog 22 #[v,.agg #[.int .i64 x,.int .i64 y,.int .i64 t,.bool m]] W fun e w'=>∃v,e=.returned v/\RepV w' w' (fun _=>0) 0 (shpV (movS s x y t m)) v/\Ext W w':=by
 obtain⟨p,c,rfl,h⟩:=ShAt.of hv
 refine (shMove s x y t m p c W h h1 hn hok hx hy ht).mono ?_
 rintro e w' ⟨g,cp,rfl,h2,hx⟩
 exact⟨_,rfl,h2.rep,hx⟩
theorem madeC(L:List Int)(v:Value)(W:World)(hv:IntsC W L v):Calls Tryz.prog 21 #[v] W fun e w'=>∃v,e=.returned v/\RepV w' w' (fun _=>0) 0 (shpV (madeS L)) v/\Ext W w' :=
 made_fok L W [v] (rvs_cons.2 ⟨_,RepI.val (i:=.ds L) ⟨_,rfl,hv⟩,_,rfl,rfl⟩)
theorem ShAt.only{W W':World}{s:Sh}{p:Option Addr}{c B:Nat}{xs:Array Value}{T:TypeId}(h:ShAt W s p c)(ho:OnlyB B W W')(hB:W.heap[B]? = some (.cells xs T))(hs:xs.size<7):ShAt W' s p c:=by
 refine⟨h.k,h.r,h.le,h.mx,?_⟩
 obtain⟨a,c',e,h1,h2,h3⟩:=h.row
 refine⟨a,c',e,h1,h2,fun i hi=>?_⟩
 obtain⟨g,o,ys,T',k1,k2,k3,cs,d,k4,k5⟩:=h3 i hi
 have hl:7<=ys.size:=by
  obtain⟨_,_,rfl,⟨rfl,_⟩,_,_,rfl,⟨rfl,_⟩,_,_,rfl,⟨rfl,_⟩,_,_,rfl,⟨rfl,_⟩,_,_,rfl,⟨rfl,_⟩,_,_,rfl,⟨rfl,_⟩,_,_,rfl,⟨rfl,_⟩,rfl⟩:=k5
  have:=congrArg List.length k4
  simp only[List.length_drop,Array.length_toList,List.length_append,List.length_cons,List.length_nil] at this
  omega
 have hg:g≠B:=fun e=>by
  subst e
  rw[k2] at hB
  injection hB with hB
  injection hB with hB
  subst hB
  omega
 refine⟨g,o,ys,T',k1,(ho.block g hg).trans k2,k3,cs,d,k4,?_⟩
 obtain⟨c0,d0,e0,a0,c1,d1,e1,a1,c2,d2,e2,a2,c3,d3,e3,a3,c4,d4,e4,a4,c5,d5,e5,a5,c6,d6,e6,a6,e7⟩:=k5
 exact⟨c0,d0,e0,a0,c1,d1,e1,a1,c2,d2,e2,a2,c3,d3,e3,a3,c4,d4,e4,a4,c5,d5,e5,a5,c6,d6,e6,a6,e7⟩
theorem sto_sh{a:Act}{o:Oper}{x y:Operand}{B:Nat}{W:World}(s:Sh)(p:Option Addr)(c:Nat)(hB:W.heap[B]? = some (.cells #[.int .i64 0,.slice none 0 0,.int .i64 0] 30))(ho:o.op=.store 30 x y)(hx:a.eval x=.pointer (some ⟨B,0,none⟩))(hy:a.eval y=.agg #[.int .i64 s.k,.slice p s.n c,.int .i64 s.r]) :
  ∃W',(execOp a.eval o).run Tryz.prog W=.ok .skip W'/\OnlyB B W W'/\W'.heap[B]? = some (.cells #[.int .i64 s.k,.slice p s.n c,.int .i64 s.r] 30):=by
 obtain⟨o1,o2⟩:=onlyB_setRow (cs':=(([.int .i64 0,.slice none 0 0,.int .i64 0]:List Value).take 0++(([.int .i64 s.k,.slice p s.n c,.int .i64 s.r]:List Value)++([.int .i64 0,.slice none 0 0,.int .i64 0]:List Value).drop (0+3))).toArray) hB
 exact⟨_,ex_store (vs:=[.int .i64 s.k,.slice p s.n c,.int .i64 s.r]) (old:=[.int .i64 0,.slice none 0 0,.int .i64 0]) ho hx hB (by rw[hy];rfl) (n:=3) (by kernel_rfl) rfl (by simp) (fun v hv=>by simp only[List.mem_cons,List.not_mem_nil,or_false] at hv;rcases hv with rfl|rfl|rfl<;>rfl),o1,o2⟩
theorem giv_sh{a:Act}{o:Oper}{x y:Operand}{B:Nat}{W:World}{R:Value->World->Prop}(s:Sh)(p:Option Addr)(c:Nat)(hB:W.heap[B]? = some (.cells #[.int .i64 0,.slice none 0 0,.int .i64 0] 30))(ho:o.op=.store 30 x y)(hx:a.eval x=.pointer (some ⟨B,0,none⟩))(hy:a.eval y=.agg #[.int .i64 s.k,.slice p s.n c,.int .i64 s.r])
  (hR:∀W',OnlyB B W W'->W'.heap[B]? = some (.cells #[.int .i64 s.k,.slice p s.n c,.int .i64 s.r] 30)->R undef W'):Gives Tryz.prog o a W R:=by
 obtain⟨W',h1,h2,h3⟩:=sto_sh s p c hB ho hx hy
 exact gives_skip h1 (hR _ h2 h3)
theorem mod_bd(z:Int):(z.tmod 60).natAbs<=c26:=by
 obtain⟨h1,h2⟩:=tmod_bd z (show (0:Int)<60 by decide)
 generalize z.tmod 60=u at *
 unfold c26
 omega
theorem shapesC(L M:List Int)(bx by':Int)(v1 v2:Value)(w:World)(h1:IntsC w L v1)(h2:IntsC w M v2)(hm:1<=(madeS M).n/\(madeS M).n<=1000)(hok:∀i,i<(madeS M).n->((madeS M).e i).ok=true) :
  Calls Tryz.prog 6 #[v1,v2,.agg #[.int .i64 bx,.int .i64 by']] w fun e w'=>∃u1 u2,e=.returned (.tuple #[u1,u2])/\RepV w' w' (fun _=>0) 0 (shpV (madeS L)) u1/\RepV w' w' (fun _=>0) 0 (shpV (movS (madeS M) (bx.tmod 60) (by'.tmod 60) 0 false)) u2/\Ext w w':=by
 have C1:=Lib.hid (fun W (hW:Ext w W)=>madeC L v1 W (h1.ext hW))
 have C2:=Lib.hid (fun W (hW:Ext w W)=>madeC M v2 W (h2.ext hW))
 clear h1 h2
 have X0:Ext w (((w.alloc (.cells #[.int .i64 bx,.int .i64 by'] 24)).alloc (.cells #[.int .i64 0,.slice none 0 0,.int .i64 0] 30)).alloc (.cells #[.int .i64 0,.slice none 0 0,.int .i64 0] 30)):=bxx
 have X0:=Lib.hid X0
 go_enter Tryz.func6,Tryz.ntmps6
 go_wp2_with fail
 refine (C2.out _ X0.out).mono ?_
 rintro e W1 ⟨v,rfl,hv,hx⟩
 obtain⟨p,c,rfl,hS⟩:=ShAt.of hv
 have b5:=heap_ext (heap_ext (heap_ext (World.alloc_heap_new w (.cells #[.int .i64 bx,.int .i64 by'] 24)) (below_alloc _ (.cells #[.int .i64 0,.slice none 0 0,.int .i64 0] 30))) (below_alloc _ (.cells #[.int .i64 0,.slice none 0 0,.int .i64 0] 30))) hx
 have b6:=heap_ext (heap_ext (World.alloc_heap_new (w.alloc (.cells #[.int .i64 bx,.int .i64 by'] 24)) (.cells #[.int .i64 0,.slice none 0 0,.int .i64 0] 30)) (below_alloc _ (.cells #[.int .i64 0,.slice none 0 0,.int .i64 0] 30))) hx
 have b7:=heap_ext (World.alloc_heap_new ((w.alloc (.cells #[.int .i64 bx,.int .i64 by'] 24)).alloc (.cells #[.int .i64 0,.slice none 0 0,.int .i64 0] 30)) (.cells #[.int .i64 0,.slice none 0 0,.int .i64 0] 30)) hx
 simp only[World.size_alloc] at b6 b7
 have B5:=Lib.hid b5
 have B6:=Lib.hid b6
 have B7:=Lib.hid b7
 have X1:=Lib.hid (Ext.step X0.out hx)
 have HS:=Lib.hid hS
 clear b5 b6 b7 hx hv hS X0 C2
 generalize hs:madeS M=s at *
 obtain⟨k,r,n,hk,hr,hn⟩:∃k r n,s.k=k/\s.r=r/\s.n=n:=⟨_,_,_,rfl,rfl,rfl⟩
 have KRN:=Lib.hid (And.intro hk (And.intro hr hn))
 rw[hk,hr,hn]
 clear hk hr hn
 go_upto_region 2 with (fail)
 have b8:=World.alloc_heap_new W1 (.cells #[.int .i64 k,.slice p n c,.int .i64 r] 30)
 have zB:=(Array.getElem?_eq_some_iff.1 B7.out).1
 have CC:Hid (∀W,((Ext w W/\W1.heap.size+1<=W.heap.size)/\W.heap[W1.heap.size]? = some (.cells #[.int .i64 k,.slice p n c,.int .i64 r] 30)/\W.heap[w.heap.size]? = some (.cells #[.int .i64 bx,.int .i64 by'] 24)) ->
   (W.cell? ⟨W1.heap.size,0,none⟩=some (.int .i64 k)/\W.cell? ⟨W1.heap.size,1,none⟩=some (.slice p n c)/\W.cell? ⟨W1.heap.size,2,none⟩=some (.int .i64 r))/\W.cell? ⟨w.heap.size,0,none⟩=some (.int .i64 bx)/\W.cell? ⟨w.heap.size,1,none⟩=some (.int .i64 by')):=Lib.hid fun W h=>by
  obtain⟨_,r8,r5⟩:=h
  refine⟨⟨?_,?_,?_⟩,?_,?_⟩
  ·rw[cell_of_row _ _ _ _ _ _ r8];rfl
  ·rw[cell_of_row _ _ _ _ _ _ r8];rfl
  ·rw[cell_of_row _ _ _ _ _ _ r8];rfl
  ·rw[cell_of_row _ _ _ _ _ _ r5];rfl
  ·rw[cell_of_row _ _ _ _ _ _ r5];rfl
 refine wp_region_G (fun W=>(Ext w W/\W1.heap.size+1<=W.heap.size)/\W.heap[W1.heap.size]? = some (.cells #[.int .i64 k,.slice p n c,.int .i64 r] 30)/\W.heap[w.heap.size]? = some (.cells #[.int .i64 bx,.int .i64 by'] 24))
  (fun W=>ShAt W s p c/\W.heap[w.heap.size+1]? = some (.cells #[.int .i64 0,.slice none 0 0,.int .i64 0] 30)/\W.heap[w.heap.size+1+1]? = some (.cells #[.int .i64 0,.slice none 0 0,.int .i64 0] 30)) (by kernel_rfl) (by kernel_rfl) ?_ ?_ ?_ ?_
 ·exact⟨⟨⟨Ext.step X1.out (below_alloc _ _),by simp⟩,b8,heap_ext B5.out (below_alloc _ _)⟩,HS.out.ext (below_alloc _ _),heap_ext B6.out (below_alloc _ _),heap_ext B7.out (below_alloc _ _)⟩
 ·rintro W W' ⟨⟨⟨h1, h2⟩, h3, h4⟩, h5, h6, h7⟩ hb
  exact⟨⟨⟨Ext.step h1 hb,Nat.le_trans h2 hb.size⟩,heap_ext h3 hb,heap_ext h4 hb⟩,h5.ext hb,heap_ext h6 hb,heap_ext h7 hb⟩
 ·rintro W ⟨⟨h1, h2⟩, _⟩
  simpa using h2
 repeat (refine F_run (v:=?_) (by rfl) ?_ ?_;rotate_left;(· (intro W hW;obtain⟨⟨c0,c1,c2⟩,c3,c4⟩:=CC.out W hW;go_simp;try with_reducible rfl));simp only[Act.put,List.setIfInBounds_toArray,List.set_cons_zero,List.set_cons_succ])
 refine F_callE (I:=Value) (fun v=>v) (fun v W=>RepV W W (fun _=>0) 0 (shpV (madeS L)) v) (shpV_mono _) (by rfl) (by rfl) (fun W hW=>?_) fun u1 hu1=>?_
 ·refine gives_enter (f := 21) (args := #[v1]) (by go_simp; try with_reducible rfl) ((C1.out W hW.1.1.1).mono ?_)
  rintro e W' ⟨v,rfl,hv,hx⟩
  exact⟨v,rfl,v,rfl,hx,hv⟩
 simp only[Act.put,List.setIfInBounds_toArray,List.set_cons_zero,List.set_cons_succ]
 repeat (refine F_run (v:=?_) (by rfl) ?_ ?_;rotate_left;(· (intro W hW;obtain⟨⟨c0,c1,c2⟩,c3,c4⟩:=CC.out W hW;go_simp;try with_reducible rfl));simp only[Act.put,List.setIfInBounds_toArray,List.set_cons_zero,List.set_cons_succ])
 obtain⟨rfl,rfl,rfl⟩:=KRN.out
 obtain⟨X,hX⟩:∃X,bx.tmod 60=X:=⟨_,rfl⟩
 obtain⟨Y,hY⟩:∃Y,by'.tmod 60=Y:=⟨_,rfl⟩
 have bX:X.natAbs<=c26:=hX ▸ mod_bd bx
 have bY:Y.natAbs<=c26:=hY ▸ mod_bd by'
 rw[hX,hY]
 obtain⟨Wx,_,hux⟩:=hu1
 obtain⟨p1,c1,rfl,_⟩:=ShAt.of hux
 clear hux
 refine F_callE (I:=Value) (fun v=>v) (fun v W=>RepV W W (fun _=>0) 0 (shpV (movS s X Y 0 false)) v) (shpV_mono _) (by rfl) (by rfl) (fun W hW=>?_) fun u2 hu2=>?_
 ·refine gives_enter (f := 22) (args := #[.agg #[.int .i64 s.k, .slice p s.n c, .int .i64 s.r], .agg #[.int .i64 X, .int .i64 Y, .int .i64 0, .bool false]]) (by go_simp; try with_reducible rfl) ((moveC s (x := X) (y := Y) (t := 0) false hm.1 hm.2 hok bX bY (by omega) _ W hW.1.2.1.rep).mono ?_)
  rintro e W' ⟨v,rfl,hv,hx⟩
  exact⟨v,rfl,v,rfl,hx,hv⟩
 simp only[Act.put,List.setIfInBounds_toArray,List.set_cons_zero,List.set_cons_succ]
 obtain⟨Wy,_,huy⟩:=hu2
 obtain⟨p2,c2,rfl,_⟩:=ShAt.of huy
 clear huy
 refine F_store (fun W=>(((Ext w W/\W1.heap.size+1<=W.heap.size)/\W.heap[W1.heap.size]? = some (.cells #[.int .i64 s.k,.slice p s.n c,.int .i64 s.r] 30)/\W.heap[w.heap.size]? = some (.cells #[.int .i64 bx,.int .i64 by'] 24))/\W.heap[w.heap.size+1]? = some (.cells #[.int .i64 (madeS L).k,.slice p1 (madeS L).n c1,.int .i64 (madeS L).r] 30)/\W.heap[w.heap.size+1+1]? = some (.cells #[.int .i64 0,.slice none 0 0,.int .i64 0] 30))/\ShAt W (madeS L) p1 c1/\ShAt W (movS s X Y 0 false) p2 c2)
  ?_ ?_ (by rfl) (by rfl) (fun W hW=>?_) ?_
 ·rintro W W' ⟨⟨⟨⟨h1, h2⟩, h3, h4⟩, h5, h6⟩, h7, h8⟩ hb
  exact⟨⟨⟨⟨Ext.step h1 hb,Nat.le_trans h2 hb.size⟩,heap_ext h3 hb,heap_ext h4 hb⟩,heap_ext h5 hb,heap_ext h6 hb⟩,h7.ext hb,h8.ext hb⟩
 ·exact fun W h=>h.1.1
 ·obtain ⟨⟨⟨⟨⟨x1, z1⟩, r8, r5⟩, _, r6, r7⟩, q1⟩, q2⟩ := hW
  obtain⟨p',c',e',q1⟩:=ShAt.of q1
  cases e'
  obtain⟨p',c',e',q2⟩:=ShAt.of q2
  cases e'
  refine giv_sh (madeS L) p1 c1 r6 rfl (by rfl) (by rfl) fun W2 o1 o2=>⟨rfl,by rw[o1.size];exact Nat.le_refl _,⟨⟨⟨x1.trans (o1.below (by omega)),by rw[o1.size];exact z1⟩,(o1.block _ (by omega)).trans r8,(o1.block _ (by omega)).trans r5⟩,o2,(o1.block _ (by omega)).trans r7⟩,q1.only o1 r6 (by simp),q2.only o1 r6 (by simp)⟩
 simp only[Act.put,List.setIfInBounds_toArray,List.set_cons_zero,List.set_cons_succ]
 refine F_store (fun W=>(((Ext w W/\W1.heap.size+1<=W.heap.size)/\W.heap[W1.heap.size]? = some (.cells #[.int .i64 s.k,.slice p s.n c,.int .i64 s.r] 30)/\W.heap[w.heap.size]? = some (.cells #[.int .i64 bx,.int .i64 by'] 24))/\W.heap[w.heap.size+1]? = some (.cells #[.int .i64 (madeS L).k,.slice p1 (madeS L).n c1,.int .i64 (madeS L).r] 30)/\W.heap[w.heap.size+1+1]? = some (.cells #[.int .i64 (movS s X Y 0 false).k,.slice p2 (movS s X Y 0 false).n c2,.int .i64 (movS s X Y 0 false).r] 30))/\ShAt W (madeS L) p1 c1/\ShAt W (movS s X Y 0 false) p2 c2)
  ?_ ?_ (by rfl) (by rfl) (fun W hW=>?_) ?_
 ·rintro W W' ⟨⟨⟨⟨h1, h2⟩, h3, h4⟩, h5, h6⟩, h7, h8⟩ hb
  exact⟨⟨⟨⟨Ext.step h1 hb,Nat.le_trans h2 hb.size⟩,heap_ext h3 hb,heap_ext h4 hb⟩,heap_ext h5 hb,heap_ext h6 hb⟩,h7.ext hb,h8.ext hb⟩
 ·exact fun W h=>h.1.1
 ·obtain ⟨⟨⟨⟨⟨x1, z1⟩, r8, r5⟩, r6, r7⟩, q1, q2⟩, _⟩ := hW
  refine giv_sh (movS s X Y 0 false) p2 c2 r7 rfl (by rfl) (by rfl) fun W2 o1 o2=>⟨rfl,by rw[o1.size];exact Nat.le_refl _,⟨⟨⟨x1.trans (o1.below (by omega)),by rw[o1.size];exact z1⟩,(o1.block _ (by omega)).trans r8,(o1.block _ (by omega)).trans r5⟩,(o1.block _ (by omega)).trans r6,o2⟩,q1.only o1 r7 (by simp),q2.only o1 r7 (by simp)⟩
 simp only[Act.put,List.setIfInBounds_toArray,List.set_cons_zero,List.set_cons_succ]
 rintro W ⟨⟨⟨⟨⟨x1,_⟩,_,_⟩,r6,r7⟩,q1,q2⟩,_⟩
 have e0:W.cell? ⟨w.heap.size+1,0,none⟩=some (.int .i64 (madeS L).k):=by rw[cell_of_row _ _ _ _ _ _ r6];rfl
 have e1:W.cell? ⟨w.heap.size+1,1,none⟩=some (.slice p1 (madeS L).n c1):=by rw[cell_of_row _ _ _ _ _ _ r6];rfl
 have e2:W.cell? ⟨w.heap.size+1,2,none⟩=some (.int .i64 (madeS L).r):=by rw[cell_of_row _ _ _ _ _ _ r6];rfl
 have e3:W.cell? ⟨w.heap.size+1+1,0,none⟩=some (.int .i64 (movS s X Y 0 false).k):=by rw[cell_of_row _ _ _ _ _ _ r7];rfl
 have e4:W.cell? ⟨w.heap.size+1+1,1,none⟩=some (.slice p2 (movS s X Y 0 false).n c2):=by rw[cell_of_row _ _ _ _ _ _ r7];rfl
 have e5:W.cell? ⟨w.heap.size+1+1,2,none⟩=some (.int .i64 (movS s X Y 0 false).r):=by rw[cell_of_row _ _ _ _ _ _ r7];rfl
 have Q1:=Lib.hid q1
 have Q2:=Lib.hid q2
 have XX:=Lib.hid x1
 have HXY:=Lib.hid (And.intro hX hY)
 clear q1 q2 x1 r6 r7 hX hY bX bY
 go_wp2
 refine bodyPost_ret (v:=.tuple #[.agg #[.int .i64 (madeS L).k,.slice p1 (madeS L).n c1,.int .i64 (madeS L).r],.agg #[.int .i64 (movS s X Y 0 false).k,.slice p2 (movS s X Y 0 false).n c2,.int .i64 (movS s X Y 0 false).r]]) (by simp only[results,Tryz.results6];go_simp) rfl ?_
 obtain⟨hX,hY⟩:=HXY.out
 exact⟨_,_,rfl,Q1.out.rep,by rw[hX,hY];exact Q2.out.rep,XX.out⟩
end

set_option maxRecDepth 100000
section
theorem infoShH:(Tryz.prog.info? 30).map (fun i=>i.zero)=some (some (.agg #[.int .i64 0,.slice none 0 0,.int .i64 0])):=by kernel_rfl
theorem infoShH':∃i,Tryz.prog.info? 30=some i/\i.zero=some (.agg #[.int .i64 0,.slice none 0 0,.int .i64 0]):=by
 have h:=infoShH
 cases hi:Tryz.prog.info? 30 with
 | none=>rw[hi] at h;cases h
 | some i=>rw[hi] at h;exact⟨i,rfl,by simpa using h⟩
theorem rectH_fok(x0 y0 x1 y1:Int):Fok Tryz.prog 12 [rcV x0 y0 x1 y1] (.one (shpV (rectS x0 y0 x1 y1))):=fokS [] [] [] [] (by kernel_rfl)
theorem gh_r13(X0 Y0 X1 Y1:Int)(a:Act)(W:World)(b:Nat)(Q:Exit->Act->World->Prop)(hsz:a.tmps.size=109)(h13:a.tmps.getD 13 undef=ptrA b)(f13:FpAt W b [.i X0 2000,.i Y0 2000,.i X1 2000,.i Y1 2000])
  (hQ:∀a' W' g,a'.tmps.size=109->a'.defers=a.defers->(∀t,t<14->a'.tmps.getD t undef=a.tmps.getD t undef)->Ext W W'->a'.tmps.getD 14 undef=ptrA g->FpAt W' g (shL (rectS (X0-1) (Y0-1) (X1+1) (Y1+1)))->Q .normal a' W') :
  (Code.region 13 (opsT fGh 13).toArray false).wp Tryz.prog Q a W:=by
 refine regT_wp ?_
 have es:opsT fGh 13=(opsT fGh 13).take 13++[opT fGh 13 13,opT fGh 13 14,opT fGh 13 15]:=by kernel_rfl
 have q1:(opT fGh 13 13).dst=some 84:=by kernel_rfl
 have q2:(opT fGh 13 14).dst=some 14:=by kernel_rfl
 have q3:(opT fGh 13 15).dst=none:=by kernel_rfl
 have lo:∀t,t<14->offT ((opsT fGh 13).take 13) t=true:=by
  intro t ht
  have:((List.range 14).all fun t=>offT ((opsT fGh 13).take 13) t)=true:=by kernel_rfl
  exact List.all_eq_true.1 this t (List.mem_range.2 ht)
 have go:WpS Tryz.prog (opsT fGh 13).toArray (fun a w=>Q .normal a w) ((opsT fGh 13).take 13++[opT fGh 13 13,opT fGh 13 14,opT fGh 13 15]) a W:=by
  refine wpS_app ?_
  refine runS_ok (X:=[]) (K:=[]) (n:=109) (d:=⟨[(13,.eq (fpV [.i X0 2000,.i Y0 2000,.i X1 2000,.i Y1 2000]))],[]⟩) (d':=⟨[(83,.le ⟨true,[.i (X0-1) 3000,.i (Y0-1) 3000,.i (X1+1) 3000,.i (Y1+1) 3000]⟩)],[]⟩) (q:=[]) [⟨X0-1=X0-1,rfl⟩,⟨Y0-1=Y0-1,rfl⟩,⟨X1+1=X1+1,rfl⟩,⟨Y1+1=Y1+1,rfl⟩] (by kernel_rfl) (old_J hsz fun z hz=>?_) fun a1 W1 hJ1 ho1=>?_
  ·rw[List.mem_singleton.1 hz];show RepV _ _ _ _ (fpV _) (a.tmps.getD 13 undef);rw[h13];exact f13.rv
  obtain⟨k1,k2,_,r,k3,_⟩:=own_fp hJ1
  have hv:RepV W1 W1 (fun _=>0) 0 (rcV (X0-1) (Y0-1) (X1+1) (Y1+1)) (a1.tmps.getD 83 undef):=by
   have:=k3 83 ⟨true,[.i (X0-1) 3000,.i (Y0-1) 3000,.i (X1+1) 3000,.i (Y1+1) 3000]⟩ (by kernel_rfl)
   unfold rcV
   simp only[rv_t,rl_i,rl_nil] at this ⊢
   obtain⟨_,⟨⟨_,i0⟩,_,rfl,⟨_,i1⟩,_,rfl,⟨_,i2⟩,_,rfl,⟨_,i3⟩,_,rfl,rfl⟩,e⟩:=this
   exact⟨_,⟨⟨i64_lim i0,i0⟩,_,rfl,⟨i64_lim i1,i1⟩,_,rfl,⟨i64_lim i2,i2⟩,_,rfl,⟨i64_lim i3,i3⟩,_,rfl,rfl⟩,e⟩
  refine wpS_call (f:=12) (args:=#[a1.tmps.getD 83 undef]) (by kernel_rfl) ?_ (rectH_fok (X0-1) (Y0-1) (X1+1) (Y1+1) W1 [a1.tmps.getD 83 undef] (rvs_cons.2 ⟨_,hv,_,rfl,rfl⟩)) (fun x W2 ⟨v,hx,_⟩=>⟨v,hx⟩) ?_
  ·have := run_enter (P := Tryz.prog) (o := opT fGh 13 13) (a := dfA a.defers a1) (f := 12) (x := .func 12) (caps := #[]) (cl := { callee := .value (.func 12), args := #[.tmp 83], argTypes := #[40] }) prog_nm Tryz.func12 rfl (by kernel_rfl) rfl rfl W1
   rw[this]
   simp only[List.map_toArray,List.map_cons,List.map_nil,Array.append_empty]
   rfl
  ·rintro v W2 ⟨v', hx, hs, hx2⟩
   obtain rfl:v=v':=by injection hx
   rw[q1]
   obtain⟨G,hG⟩:∃G,rectS (X0-1) (Y0-1) (X1+1) (Y1+1)=G:=⟨_,rfl⟩
   rw[hG] at hs
   obtain⟨p,c,rfl,hS⟩:=ShAt.of hs
   obtain⟨i,hi,hz⟩:=infoShH'
   obtain⟨a2,ha2⟩:∃a2,(dfA a.defers a1).put (some 84) (.agg #[.int .i64 G.k,.slice p G.n c,.int .i64 G.r])=a2:=⟨_,rfl⟩
   have e84:a2.tmps.getD 84 undef=.agg #[.int .i64 G.k,.slice p G.n c,.int .i64 G.r]:=by rw[<- ha2];simp[Act.put,dfA,k2]
   have z2:a2.tmps.size=109:=by rw[<- ha2];simp[Act.put,dfA,k2]
   have d2:a2.defers=a.defers:=by rw[<- ha2];rfl
   have o2:∀t,t<14->a2.tmps.getD t undef=a.tmps.getD t undef:=fun t ht=>by
    have:=ho1 t (lo t ht)
    rw[<- ha2]
    simp[Act.put,dfA,Array.getElem?_setIfInBounds,show ¬84=t by omega] at this ⊢
    exact this
   rw[ha2]
   have c3:=World.alloc_heap_new W2 (.cells #[.int .i64 0,.slice none 0 0,.int .i64 0] 30)
   have y3:=below_alloc W2 (.cells #[.int .i64 0,.slice none 0 0,.int .i64 0] 30)
   refine wpS_val (x:=ptrA W2.heap.size) (W:=W2.alloc (.cells #[.int .i64 0,.slice none 0 0,.int .i64 0] 30)) (by kernel_rfl) (ex_alloc (by kernel_rfl) hi hz W2) ?_
   rw[q2]
   obtain⟨a3,ha3⟩:∃a3,a2.put (some 14) (ptrA W2.heap.size)=a3:=⟨_,rfl⟩
   have e14:a3.tmps.getD 14 undef=ptrA W2.heap.size:=by rw[<- ha3];simp[Act.put,z2]
   have e84':a3.tmps.getD 84 undef=a2.tmps.getD 84 undef:=by rw[<- ha3];simp[Act.put,Array.getElem?_setIfInBounds]
   have z3:a3.tmps.size=109:=by rw[<- ha3];simp[Act.put,z2]
   have d3:a3.defers=a.defers:=by rw[<- ha3];exact d2
   have o3:∀t,t<14->a3.tmps.getD t undef=a.tmps.getD t undef:=fun t ht=>by
    rw[<- o2 t ht,<- ha3]
    simp[Act.put,Array.getElem?_setIfInBounds,show ¬14=t by omega]
   rw[ha3]
   obtain⟨W3,s1,s2,s3⟩:=sto_sh (a:=a3) (o:=opT fGh 13 15) (x:=.tmp 14) (y:=.tmp 84) (B:=W2.heap.size) G p c c3 (by kernel_rfl) e14 (by show a3.tmps.getD 84 undef=_;rw[e84',e84])
   refine wpS_skip (W:=W3) (by kernel_rfl) s1 ?_
   rw[q3]
   have xx:Ext W W3:=(Ext.step (Ext.step k1 hx2) y3).trans (s2.below (Ext.step k1 hx2).size)
   refine hQ _ W3 W2.heap.size (by simp[Act.put,z3]) (by simpa[Act.put] using d3) (fun t ht=>by simpa[Act.put] using o3 t ht) xx (by simpa[Act.put] using e14) ?_
   rw[hG]
   exact .of (cs:=[.int .i64 G.k,.slice p G.n c,.int .i64 G.r]) s3 ((hS.ext y3).only s2 c3 (by simp)).repF
 rw[show WpS Tryz.prog (opsT fGh 13).toArray (fun a w=>Q .normal a w) (opsT fGh 13) a W=WpS Tryz.prog (opsT fGh 13).toArray (fun a w=>Q .normal a w) ((opsT fGh 13).take 13++[opT fGh 13 13,opT fGh 13 14,opT fGh 13 15]) a W by rw[<- es]]
 exact go
end
theorem sideZ_both{t:Int}(ht:0<t)(a b c:Int):sideZ (t*a) (t*b) c=sideZ a b c:=by
 unfold sideZ
 rw[sgn_mul ht,sgn_mul ht,show t*a*(t*a)=t*t*(a*a) by grind,show t*b*(t*b)*c=t*t*(b*b*c) by grind,cmpZ_mul (Int.mul_pos ht ht)]
end Go.Proofs.YteajakbpmeebnaaGreat
