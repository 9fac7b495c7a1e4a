import Derived.Test.YtghemgdfmldoeaaGreatP35
import Derived.Test.YtghemgdfmldoeaaGreatP30
set_option linter.unusedVariables false
set_option linter.unusedSimpArgs false
namespace Go.Proofs.YtghemgdfmldoeaaGreat
open Go.RowKit
set_option maxHeartbeats 4000000
set_option maxRecDepth 100000
section
attribute [local go_sem] aL dz
theorem a1D{e:Ed}(h:e.ok=true){x y t:Int}(m:Bool)(hx:x.natAbs<=aC)(hy:y.natAbs<=aC)(ht : -8<=t/\t<=8)(W:World):Calls Tryz.prog 86 #[fi e,.agg #[.int .i64 x,.int .i64 y,.int .i64 t,.bool m]] W λe' W'=>e'=.returned (fi (vW e x y (am t 4) m))/\ac W W':=by
 have c:aC<=9223372036854775807:=by decide
 have c8:8<=aC:=by decide
 refine (a1u e x y t m h ht W _ (aK.2 ⟨_,Oh h,_,rfl,aK.2 ⟨_,bL.2 ⟨_,bi.2 ⟨⟨hx,by unfold I64;omega⟩,_,rfl,bi.2 ⟨⟨hy,by unfold I64;omega⟩,_,rfl,bi.2 ⟨⟨by omega,by unfold I64;omega⟩,_,rfl,nU.2 ⟨rfl,_,rfl,rfl⟩⟩⟩⟩,rfl⟩,_,rfl,rfl⟩⟩)).mono ?_;rintro e' W' ⟨v,rfl,hv,hx⟩;refine⟨?_,hx⟩;have:=Ul (l:=cV (vW e x y (am t 4) m)) rfl hv;rw[this];rfl
theorem a1s{e:Ed}(h:e.ok=true){x y t:Int}(m:Bool)(hx:x.natAbs<=aC)(hy:y.natAbs<=aC):oj (vW e x y (am t 4) m):=by
 have hk:=nE h;obtain⟨⟨h1,h2⟩,⟨h3,h4⟩,h5,h6⟩:=sH h;unfold Co at h1 h2 h3 h4 h5 h6;have b:∀u v:Int,u.natAbs<=aC->v.natAbs<=aC->I64 (kL x y (am t 4) m u v).1/\I64 (kL x y (am t 4) m u v).2:=λu v hu hv=>by
  obtain⟨b1,b2⟩:=AO (ax:=x) (ay:=y) (n:=t) (x:=u) (y:=v) (m:=m) hx hy hu hv;unfold aC at b1 b2;unfold dO at b1 b2;unfold I64;omega
 have c1:=b e.ax e.ay (by unfold aC;omega) (by unfold aC;omega);have c2:=b e.bx e.by' (by unfold aC;omega) (by unfold aC;omega)
 have c3:=b e.cx e.cy (by unfold aC;omega) (by unfold aC;omega);have k0:I64 (if m then (jk e.k).k else e.k):=by
  rcases hk with k|k|k<;>rw[k]<;>cases m<;>(unfold I64;decide)
 refine⟨k0,c1.1,c1.2,c2.1,c2.2,?_,?_⟩
 ·show I64 (if e.k = 1 then e.cx else _);split
  ·unfold I64;omega
  ·exact c3.1
 ·show I64 (if e.k = 1 then e.cy else _);split
  ·unfold I64;omega
  ·exact c3.2
theorem TV(s:Sh)(x y t:Int)(m:Bool)(f:Nat->Ed)(p:Option Addr)(c:Nat)(w:World)(h:ShAt w s p c)(h1:1<=s.n)(hn:s.n<=1000)(MV:∀k,k<s.n->∀W,Calls Tryz.prog 86 #[fi (s.e k),.agg #[.int .i64 x,.int .i64 y,.int .i64 t,.bool m]] W λe' W'=>e'=.returned (fi (f k))/\ac W W')(OK:∀i,i<s.n->oj (f i)) :
  Calls Tryz.prog 29 #[.agg #[.int .i64 s.k,.slice p s.n c,.int .i64 s.r],.agg #[.int .i64 x,.int .i64 y,.int .i64 t,.bool m]] w λe w'=>∃g cp,e=.returned (.agg #[.int .i64 s.k,.slice (some ⟨g,0,none⟩) s.n cp,.int .i64 s.r])/\(I64 s.k/\I64 s.r)/\lY w' s.n (λi=>e7 (f i)) (.slice (some ⟨g,0,none⟩) s.n cp)/\ac w w':=by
 have CL:=Lib.hid (λW (hW:ac w W)=>Nr s.n s.e p c W (h.ext hW).edr h1 hn)
 replace MV:=Lib.hid MV;replace OK:=Lib.hid OK;have H:=Lib.hid h;have X0:ac w (((w.alloc (.cells #[.int .i64 s.k,.slice p s.n c,.int .i64 s.r] 30)).alloc (.cells #[.int .i64 x,.int .i64 y,.int .i64 t,.bool m] 74)).alloc (.cells #[.int .i64 0,.slice none 0 0,.int .i64 0] 30)):=ag;have X0:=Lib.hid X0;clear h;go_enter Tryz.func29,Tryz.ntmps29;go_wp2_with fail;refine (CL.out _ X0.out).mono ?_;rintro e W1 ⟨_,rfl,g,cp,cur,rfl,hg,hc,hcp,hmx,htk,hx1⟩;have M0:MI w (W1.setCell ⟨w.heap.size,1,none⟩ (.slice (some ⟨g,0,none⟩) s.n cp)) s x y t m f g cp (cur.toList.drop (s.n*7)) 0:=by
  have a0:=World.alloc_heap_new w (.cells #[.int .i64 s.k,.slice p s.n c,.int .i64 s.r] 30);have a1:=World.alloc_heap_new (w.alloc (.cells #[.int .i64 s.k,.slice p s.n c,.int .i64 s.r] 30)) (.cells #[.int .i64 x,.int .i64 y,.int .i64 t,.bool m] 74);have a2:=World.alloc_heap_new ((w.alloc (.cells #[.int .i64 s.k,.slice p s.n c,.int .i64 s.r] 30)).alloc (.cells #[.int .i64 x,.int .i64 y,.int .i64 t,.bool m] 74)) (.cells #[.int .i64 0,.slice none 0 0,.int .i64 0] 30);have b0:=aH (aH (aH a0 (iR _ _)) (iR _ _)) hx1;have b1:=aH (aH a1 (iR _ _)) hx1;have b2:=aH a2 hx1
  simp only[World.size_alloc] at b1 b2 hg;have hlt:w.heap.size+1+1<g:=by omega
  refine⟨(ac.step X0.out hx1).setCell (p:=⟨w.heap.size,1,none⟩) (Nat.le_refl _) _,?_,?_,?_,?_,hlt⟩
  ·exact a48 _ b0
  ·exact (wM _ (by omega)).trans b1
  ·exact (wM _ (by omega)).trans b2
  ·refine (wM _ (by omega)).trans ?_
   rw[hc,show cY (fG s.e f 0) s.n=cY s.e s.n from J0 λi _=>if_neg (Nat.not_lt_zero _),<- htk,List.take_append_drop]
 have HM:=Lib.hid M0;have FN:=Lib.hid hcp;have FX:=Lib.hid hmx;clear M0 hc hcp hmx htk hg;obtain⟨sl,hsl⟩:∃sl,cur.toList.drop (s.n*7)=sl:=⟨_,rfl⟩;rw[hsl] at HM;clear hsl;rename_i K1 HK1 K2 HK2;have hp1:w.heap.size+1+1<W1.heap.size:=by have:=hx1.size;simp at this;omega
 have c1:W1.heap[w.heap.size]? = some (.cells #[.int .i64 s.k,.slice p s.n c,.int .i64 s.r] 30):=aH (aH (aH (World.alloc_heap_new w _) (iR _ _)) (iR _ _)) hx1;have fz:W1.frozen? ⟨w.heap.size,1,none⟩=false:=by simp[World.frozen?,c1]
 have k1:W1.cell? ⟨w.heap.size,1,none⟩=some (.slice p s.n c):=by rw[cell_of_row _ _ _ _ _ _ c1];simp
 clear c1;clear hx1 X0;go_wp2;go_loopw [13] (λi wr=>∃k:Nat,i=.int .i64 (k:Int)/\k<=s.n/\MI w wr s x y t m f g cp sl k) (λi _=>s.n-(intOf i).toNat)
 case atStart=>exact⟨0,rfl,Nat.zero_le _,HM.out⟩
 case round =>
  obtain⟨k,rfl,hk,hM⟩:=hrel;clear HM fz k1 hp1;by_cases hlt:k<s.n
  ·obtain ⟨⟨a0, a1, a2⟩, a3, a4, a5, a6⟩ := hM.cells;have hE:=hM.edge hlt;have ix0:0<=(k:Int):=by omega
   have ix2:(k:Int)<(s.n:Int):=by omega
   have HM:=Lib.hid hM;clear hM;have CC:=Lib.hid (λW (hW:ac wr W)=>And.intro (HM.out.ext hW).cells ((HM.out.ext hW).edge hlt))
   obtain⟨mv,hmv⟩:∃mv,f k=mv:=⟨_,rfl⟩;have MVk:=MV.out k hlt;rw[hmv] at MVk;unfold fi at MVk;have MVk:=Lib.hid MVk;have EM:=Lib.hid hmv;clear hmv;go_upto_region 5 with (fail)
   refine UL 11 (λW=>ac wr W) (by kernel_rfl) (by kernel_rfl) (by kernel_rfl) (Below.refl _ _) (λW W' h hb=>ac.step h hb) (λW h=>h.size) ?_
   simp only[List.take_succ_cons,List.take_zero,List.drop_succ_cons,List.drop_zero];repeat (refine LQ (v:=?_) (by rfl) ?_ ?_;rotate_left;(· (intro W hW;obtain⟨⟨⟨a0,a1,a2⟩,a3,a4,a5,a6⟩,e0,e1,e2,e3,e4,e5,e6⟩:=CC.out W hW;go_simp;try with_reducible rfl));simp only[Act.put,List.setIfInBounds_toArray,List.set_cons_zero,List.set_cons_succ])
   (refine Vq (v:=.agg #[.int .i64 mv.k,.int .i64 mv.ax,.int .i64 mv.ay,.int .i64 mv.bx,.int .i64 mv.by',.int .i64 mv.cx,.int .i64 mv.cy]) (by rfl) (by rfl) ?_ ?_;(· (intro W hW;(try dsimp only at hW);go_simp;refine (MVk.out _).mono ?_;rintro e w' ⟨rfl,hx⟩;exact⟨_,rfl,rfl,hx⟩)));simp only[Act.put,List.setIfInBounds_toArray,List.set_cons_zero,List.set_cons_succ]
   repeat (refine LQ (v:=?_) (by rfl) ?_ ?_;rotate_left;(· (intro W hW;obtain⟨⟨⟨a0,a1,a2⟩,a3,a4,a5,a6⟩,e0,e1,e2,e3,e4,e5,e6⟩:=CC.out W hW;go_simp;try with_reducible rfl));simp only[Act.put,List.setIfInBounds_toArray,List.set_cons_zero,List.set_cons_succ])
   refine Vr ?_;refine U9 (λW=>MI w W s x y t m f g cp sl (k+1)) (λW W' h hb=>h.ext hb) (λ_ _=>trivial) (by rfl) (by rfl) (λW hW=>?_) ?_
   ·have M := HM.out.ext hW;have hb:=M.bg;have hf:f k=mv:=EM.out;have hp:=a47 s.e f hlt sl;rw[hf] at hp;obtain⟨o1,o2⟩:=lP (cs':=((cY (fG s.e f k) s.n++sl).take (k*7)++(eo mv++(cY (fG s.e f k) s.n++sl).drop (k*7+(eo mv).length))).toArray) hb;refine qw (W:=W.setRow g ((cY (fG s.e f k) s.n++sl).take (k*7)++(eo mv++(cY (fG s.e f k) s.n++sl).drop (k*7+(eo mv).length))).toArray) (oQ (vs:=eo mv) rfl (by rfl) hb (by rfl) (n:=7) (by kernel_rfl) rfl (by rw[List.length_append,lS,GQ];omega) (BI mv)) ⟨rfl,by rw[o1.size];exact Nat.le_refl _,?_⟩
    have hl:=M.lt;exact⟨M.ex.trans (o1.below (by omega)),(o1.block _ (by omega)).trans M.b2,(o1.block _ (by omega)).trans M.b3,(o1.block _ (by omega)).trans M.b4,o2.trans (by rw[hp]),hl⟩
   ·rintro W ⟨hM', _⟩;have HM2:=Lib.hid hM';clear hM';have wk:IntKind.i64.wrap ((k:Int)+1)=((k+1:Nat):Int):=by rw[wrap_in (by unfold I64;omega)];omega
    go_wp2;exact⟨⟨k+1,by simp,by omega,HM2.out⟩,by simp[intOf];omega⟩
  ·obtain rfl : k = s.n := by omega
   have ix:¬((s.n:Int)<(s.n:Int)):=by omega
   obtain⟨⟨a0,a1,a2⟩,a3,a4,a5,a6⟩:=hM.cells;have e4:=hM.b4;have d0:wr.cell? ⟨w.heap.size+1+1,0,none⟩=some (.int .i64 0):=by rw[cell_of_row _ _ _ _ _ _ e4];rfl
   have d1:wr.cell? ⟨w.heap.size+1+1,1,none⟩=some (.slice none 0 0):=by rw[cell_of_row _ _ _ _ _ _ e4];rfl
   have d2:wr.cell? ⟨w.heap.size+1+1,2,none⟩=some (.int .i64 0):=by rw[cell_of_row _ _ _ _ _ _ e4];rfl
   have f4:∀o,wr.frozen? ⟨w.heap.size+1+1,o,none⟩=false:=λo=>by simp[World.frozen?,e4]
   have HM:=Lib.hid hM;clear hM e4;go_wp2;refine bodyPost_ret (v:=.agg #[.int .i64 s.k,.slice (some ⟨g,0,none⟩) s.n cp,.int .i64 s.r]) (by simp only[results,Tryz.results29];go_simp) rfl ?_
   have M:=HM.out;have hl:=M.lt;have hs:=H.out;refine⟨g,cp,rfl,⟨hs.k,hs.r⟩,?_,?_⟩
   ·refine ⟨_, cp, rfl, FN.out, FX.out, λi hi => ?_⟩
    have hi:i<s.n:=hi;have hb:(((wr.setCell ⟨w.heap.size+1+1,0,none⟩ (.int .i64 s.k)).setCell ⟨w.heap.size+1+1,1,none⟩ (.slice (some ⟨g,0,none⟩) s.n cp)).setCell ⟨w.heap.size+1+1,2,none⟩ (.int .i64 s.r)).heap[g]? = some (.cells (cY (fG s.e f s.n) s.n++sl).toArray 108):=by
     rw[wM _ (by omega),wM _ (by omega),wM _ (by omega)];exact M.bg
    refine⟨g,0,_,(0,0),rfl,hb,by simp only[List.size_toArray,List.length_append,lS];have:=Nat.mul_le_mul_right 7 (show i<=s.n by omega);omega,⟨((cY (fG s.e f s.n) s.n++sl).drop (i*7)).drop 7,?_⟩,?_⟩
    ·have := S9 (fG s.e f s.n) hi sl;rw[show fG s.e f s.n i=f i from if_pos hi] at this;show (cY (fG s.e f s.n) s.n++sl).drop (0+i*7)=eo (f i)++_;rw[Nat.zero_add,<- this];exact (List.take_append_drop 7 _).symm
    ·obtain ⟨o0, o1, o2, o3, o4, o5, o6⟩ := OK.out i hi;simp only[e7,List.mem_cons,List.not_mem_nil,or_false,forall_eq_or_imp,forall_eq];exact⟨⟨aQ o0,o0⟩,⟨aQ o1,o1⟩,⟨aQ o2,o2⟩,⟨aQ o3,o3⟩,⟨aQ o4,o4⟩,⟨aQ o5,o5⟩,⟨aQ o6,o6⟩⟩
   ·exact (((M.ex.setCell (p:=⟨w.heap.size+1+1,0,none⟩) (by show w.heap.size<=w.heap.size+1+1;omega) _).setCell (p:=⟨w.heap.size+1+1,1,none⟩) (by show w.heap.size<=w.heap.size+1+1;omega) _).setCell (p:=⟨w.heap.size+1+1,2,none⟩) (by show w.heap.size<=w.heap.size+1+1;omega) _)
theorem a5P(s:Sh)(x y t:Int)(m:Bool)(p:Option Addr)(c:Nat)(w:World)(h:ShAt w s p c)(h1:1<=s.n)(hn:s.n<=1000)(hok:∀i,i<s.n->(s.e i).ok=true)(hx:x.natAbs<=aC)(hy:y.natAbs<=aC)(ht : -8<=t/\t<=8) :
  Calls Tryz.prog 29 #[.agg #[.int .i64 s.k,.slice p s.n c,.int .i64 s.r],.agg #[.int .i64 x,.int .i64 y,.int .i64 t,.bool m]] w λe w'=>∃g cp,e=.returned (.agg #[.int .i64 s.k,.slice (some ⟨g,0,none⟩) s.n cp,.int .i64 s.r])/\(I64 s.k/\I64 s.r)/\lY w' s.n (λi=>e7 ((Iu s x y t m).e i)) (.slice (some ⟨g,0,none⟩) s.n cp)/\ac w w' :=
 TV s x y t m (Iu s x y t m).e p c w h h1 hn (λk hk W=>a1D (hok k hk) m hx hy ht W) λi hi=>a1s (hok i hi) m hx hy (t:=t)
end
set_option maxRecDepth 100000
section
def kW(m:bG)(p:Int×Int):Int×Int:=zR m.x m.y m.t m.m p.1 p.2
def s6(p:Int×Int):Prop:=p.1.natAbs<=fb/\p.2.natAbs<=fb
theorem T0{W:World}{m:bG}{p:Int×Int}(h:s6 p):∀xs,aV W W (λ_=>0) 0 [⟨true,aX m⟩,⟨true,ptI p⟩] xs->aV W W (λ_=>0) 0 [o7 m.x m.y m.t m.m lim,ew p.1 p.2 fb] xs:=by
 refine aU (λx hr=>hr) (aU (λx hr=>?_) dY);obtain⟨cs,⟨_,_,rfl,⟨rfl,_,i1⟩,_,_,rfl,⟨rfl,_,i2⟩,rfl⟩,e,_⟩:=hr;exact⟨_,⟨_,_,rfl,⟨rfl,h.1,i1⟩,_,[],rfl,⟨rfl,h.2,i2⟩,rfl⟩,e,nofun⟩
def M8:ah:=gi oL tD 30 (λm p=>.one ⟨true,ptI (kW m p)⟩) (λ_ p=>[s6 p]) λm p h=>(a6W m.x m.y m.t p.1 p.2 m.m).pre λ_=>T0 h.1
def vt:ah:=gi oL tD 64 (λm p=>.one ⟨true,ptI (kW m p)⟩) (λ_ p=>[s6 p]) λm p h=>(Yq m.x m.y m.t p.1 p.2 m.m).pre λ_=>T0 h.1
def dV(m:bG)(e:Ed):Ed :=
 ⟨if m.m then (jk e.k).k else e.k,(kW m (e.ax,e.ay)).1,(kW m (e.ax,e.ay)).2,(kW m (e.bx,e.by')).1,(kW m (e.bx,e.by')).2,if e.k=1 then e.cx else (kW m (e.cx,e.cy)).1,if e.k=1 then e.cy else (kW m (e.cx,e.cy)).2⟩
structure lw (e:Ed):Prop where
 ok:e.ok=true
 a:s6 (e.ax,e.ay)
 b:s6 (e.bx,e.by')
 c:s6 (e.cx,e.cy)
def Aw:List ah:=[bM,M8]
theorem Ze(e:Ed)(x y t:Int)(m:Bool)(h:lw e):ae Tryz.prog 86 [aO e 3 aC,o7 x y t m lim] (.one ⟨true,cV (dV ⟨x,y,t,m⟩ e)⟩):=by
 have hf:(jk e.k).k=1 <-> e.k=1:=by rcases nE h.ok with k|k|k<;>rw[k]<;>decide
 unfold dV;cases m with|true =>
  by_cases hk:e.k=1
  ·simp only [if_pos hk];exact ad Aw [true,false] [pT rfl,pF (vZ (hf.2 hk)),pP h.a,pP h.b] (by kernel_rfl)
  ·simp only [if_neg hk];exact ad Aw [true,true] [pT rfl,pT (us λh=>hk (hf.1 h)),pP h.c,pP h.a,pP h.b] (by kernel_rfl)|false =>
  by_cases hk:e.k=1
  ·simp only [if_pos hk];exact ad Aw [false,false] [pF rfl,pF (vZ hk),pP h.a,pP h.b] (by kernel_rfl)
  ·simp only [if_neg hk];exact ad Aw [false,true] [pF rfl,pT (us hk),pP h.c,pP h.a,pP h.b] (by kernel_rfl)
theorem YM(e:Ed)(x y t:Int)(m:Bool)(h:lw e):ae Tryz.prog 118 [⟨true,cV e⟩,o7 x y t m lim] (.one ⟨true,cV (dV ⟨x,y,t,m⟩ e)⟩):=by
 unfold dV;cases m with|true =>
  rcases nE h.ok with k|k|k
  ·have e1 : (jk e.k).k = e.k := by rw [k]; decide
   simp only[if_true,if_pos k,e1];exact ad [vt] [false,true,false,false] [pP h.a,pP h.b,pF (vZ k),pT rfl,pF (aB (show ¬e.k=2 by omega)),pF (aB (show ¬e.k=3 by omega))] (by kernel_rfl)
  ·have e1 : (jk e.k).k = 3 := by rw [k]; decide
   simp only[if_true,if_neg (show ¬e.k=1 by omega),e1];exact ad [vt] [true,true,true] [pP h.a,pP h.b,pT (us (show ¬e.k=1 by omega)),pP h.c,pT rfl,pT (dD k)] (by kernel_rfl)
  ·have e1 : (jk e.k).k = 2 := by rw [k]; decide
   simp only[if_true,if_neg (show ¬e.k=1 by omega),e1];exact ad [vt] [true,true,false,true] [pP h.a,pP h.b,pT (us (show ¬e.k=1 by omega)),pP h.c,pT rfl,pF (aB (show ¬e.k=2 by omega)),pT (dD k)] (by kernel_rfl)|false =>
  by_cases hk:e.k=1
  ·simp only [if_pos hk, Bool.false_eq_true, if_false];exact ad [vt] [false,false] [pP h.a,pP h.b,pF (vZ hk),pF rfl] (by kernel_rfl)
  ·simp only [if_neg hk, Bool.false_eq_true, if_false];exact ad [vt] [true,false] [pP h.a,pP h.b,pT (us hk),pP h.c,pF rfl] (by kernel_rfl)
end
set_option maxRecDepth 100000
section
def j0(m:bG)(s:Sh):Sh:=Iu s m.x m.y m.t m.m
structure uX (s:Sh) (m:bG):Prop where
 lo:1<=s.n
 hi:s.n<=1000
 ok:∀i,i<s.n->(s.e i).ok=true
 x:m.x.natAbs<=aC
 y:m.y.natAbs<=aC
 t : -8<=m.t/\m.t<=8
theorem a50(s:Sh)(m:bG)(h:uX s m):ae Tryz.prog 29 [bh s,⟨true,aX m⟩] (.one (bf (j0 m s))):=by
 intro W vals hv;obtain⟨v1,_,rfl,h1,v2,_,rfl,h2,rfl⟩:=hv;obtain⟨p,c,rfl,hs⟩:=ShAt.of h1;obtain⟨cs,⟨_,_,rfl,⟨rfl,_⟩,_,_,rfl,⟨rfl,_⟩,_,_,rfl,⟨rfl,_⟩,_,_,rfl,⟨rfl,_⟩,rfl⟩,rfl,_⟩:=h2;refine (a5P s m.x m.y m.t m.m p c W hs h.lo h.hi h.ok h.x h.y h.t).mono ?_;rintro e w' ⟨g,cp,rfl,⟨i1,i2⟩,hE,hx⟩;exact⟨_,rfl,⟨_,⟨[_],_,rfl,⟨rfl,aQ i1,i1⟩,[_],_,rfl,⟨_,rfl,hE⟩,[_],[],rfl,⟨rfl,aQ i2,i2⟩,rfl⟩,rfl,nofun⟩,hx⟩
def M7:ah:=gi qh oL 29 (λs m=>.one (bf (j0 m s))) (λs m=>[uX s m]) λs m h=>a50 s m h.1
def fe(p:Pnl)(n:Nat)(F:Nat->aI)(i:Nat):aI:=⟨j0 (p.c (i/n)) (F (i%n)).s,(F (i%n)).c⟩
def fY(p:Pnl)(n:Nat)(F:Nat->cA)(i:Nat):cA:=⟨j0 (p.c (i/n)) (F (i%n)).s,(F (i%n)).f,(F (i%n)).t,(F (i%n)).p⟩
def yt(p:Pnl)(F:Nat->aI)(k j:Nat):List It:=[.i (F j).s.k lim,fW (j0 (p.c k) (F j).s).n (j0 (p.c k) (F j).s).e,.i (F j).s.r lim,.v (.bool (F j).c)]
def yL(p:Pnl)(F:Nat->cA)(k j:Nat):List It:=[.i (F j).s.k lim,fW (j0 (p.c k) (F j).s).n (j0 (p.c k) (F j).s).e,.i (F j).s.r lim,.i (F j).f lim,.i (F j).t lim,.v (.bool (F j).p)]
theorem GI(p:Pnl){n:Nat}(F:Nat->aI){k j:Nat}(h:j<n):(yt p F k j).map dB=aS (fe p n F (k*n+j)):=by
 obtain⟨e1,e2⟩:=oO (k:=k) h;unfold aS fe;rw[e1,e2];rfl
theorem HO(p:Pnl){n:Nat}(F:Nat->cA){k j:Nat}(h:j<n):(yL p F k j).map dB=aY (fY p n F (k*n+j)):=by
 obtain⟨e1,e2⟩:=oO (k:=k) h;unfold aY fY;rw[e1,e2];rfl
def fJ:FuncId:=57
def fO:FuncId:=59
def dT:FuncId:=56
def dU:FuncId:=60
abbrev GG:=aI
abbrev Hy:=cA
abbrev GF:=fK
abbrev Hw:=gW
abbrev GE:=tB
abbrev Hu:=tC
def ll:List ah:=[M7]
structure dI (p:Pnl) (n:Nat) (S:Nat->Sh):Prop where
 nc:p.nc<=1000
 ln:n<=1000
 all:p.nc*n<=1000
 ok:∀k j,k<p.nc->j<n->uX (S j) (p.c k)
section
variable (p:Pnl) (n:Nat) (F:Nat->GG)
def eQ(m:Nat):V1:=GF m (fe p n F)
theorem Gx(h:dI p n λi=>(F i).s)(k:Nat)(hk:k<p.nc):bJ Tryz.prog (bm fJ 12) ⟨nF fJ,iZ dT p (bP n F) (eQ p n F) n k 0,.ex 2,iY dT p (bP n F) (eQ p n F) n k⟩ :=
 bW (X:=[aJ]) (K:=ll) (f:=fJ) (id:=12) (n:=nF fJ) n (iZ dT p (bP n F) (eQ p n F) n k) (λ_=>[]) (e:=.ex 2) (d1:=iY dT p (bP n F) (eQ p n F) n k) (by kernel_rfl) (λ_=>by kernel_rfl) (λ_ _=>LT.nil)
  (λj hj=>⟨[true],[pT (aZ (show (j:Int)<(n:Int) by omega)),pP (show 0<=(j:Int)/\(j:Int)<(n:Int) by omega),pP (show 0<=(k:Int)/\(k:Int)<(p.nc:Int) by omega),pP (h.ok k j hk hj),bN (F j).s,pP (te h.all hk hj),qA aS (fe p n F) (k*n+j) (k*n+(j+1)) (yt p F k j) (by omega) (GI p F hj),qZ k,qZ k,pR (bP n F),qZ n,pI j (by have:=h.ln;omega)]++qR dT p (bP n F),by kernel_rfl⟩)
  ⟨[false],[pF (ce (show ¬(n:Int)<(n:Int) by omega)),qL aS (fe p n F) (k*n+n) ((k+1)*n) (by rw[Nat.succ_mul]),qZ k]++qR dT p (bP n F),by kernel_rfl⟩ nofun
noncomputable def nq(k:Nat):List (Nat×bO):=if k<p.nc then [(12,⟨nF fJ,iZ dT p (bP n F) (eQ p n F) n k 0,.ex 2,iY dT p (bP n F) (eQ p n F) n k⟩)] else []
theorem Gy(h:dI p n λi=>(F i).s):bJ Tryz.prog (bm fJ 6) ⟨nF fJ,i9 dT p (bP n F) (eQ p n F) n 0,.ex 0,ju (eQ p n F) (p.nc*n)⟩ :=
 bW (X:=[aJ]) (K:=ll) (f:=fJ) (id:=6) (n:=nF fJ) p.nc (i9 dT p (bP n F) (eQ p n F) n) (λk=>nq p n F k) (e:=.ex 0) (d1:=ju (eQ p n F) (p.nc*n)) (by kernel_rfl) (λk=>by unfold nq;by_cases h:k<p.nc<;>simp only[h,if_true,if_false]<;>kernel_rfl) (λk _=>by
   unfold nq;by_cases hk:k<p.nc
   ·rw[if_pos hk];exact LT.cons (Gx p n F h k hk) LT.nil
   ·rw[if_neg hk];exact LT.nil)
  (λk hk => by
   unfold nq;rw[if_pos hk];exact⟨[true],[pT (aZ (show (k:Int)<(p.nc:Int) by omega)),qL aS (fe p n F) (k*n) (k*n+0) rfl,qZ k,qZ k,pR (bP n F),qZ n,q0]++qR dT p (bP n F)++[qL aS (fe p n F) ((k+1)*n) ((k+1)*n) rfl,pI k (by have:=h.nc;omega)]++qR dT p (bP n F),by kernel_rfl⟩)
  (by
   unfold nq;rw[if_neg (Nat.lt_irrefl _)];exact⟨[false],[pF (ce (show ¬(p.nc:Int)<(p.nc:Int) by omega)),qL aS (fe p n F) (p.nc*n) (p.nc*n) rfl],by kernel_rfl⟩) nofun
theorem GH(h:dI p n λi=>(F i).s):ae Tryz.prog fJ [panV p,bP n F,oS dT] (.one (eQ p n F (p.nc*n))) :=
 cD [aJ] ll [(6,⟨nF fJ,i9 dT p (bP n F) (eQ p n F) n 0,.ex 0,ju (eQ p n F) (p.nc*n)⟩)] (LT.cons (Gy p n F h) LT.nil) [] ([⟨0*n=0,Nat.zero_mul n⟩,q0]++qR dT p (bP n F)) (by kernel_rfl)
end
def Gz:ah:=me dPan GE (vu dT) fJ (λp L _=>.one (eQ p L.1 L.2 (p.nc*L.1))) (λp L _=>[dI p L.1 λi=>(L.2 i).s]) λp L _ h=>GH p L.1 L.2 h.1
section
variable (p:Pnl) (n:Nat) (F:Nat->Hy)
def eR(m:Nat):V1:=Hw m (fY p n F)
theorem Hq(h:dI p n λi=>(F i).s)(k:Nat)(hk:k<p.nc):bJ Tryz.prog (bm fO 12) ⟨nF fO,iZ dU p (bR n F) (eR p n F) n k 0,.ex 2,iY dU p (bR n F) (eR p n F) n k⟩ :=
 bW (X:=[aJ]) (K:=ll) (f:=fO) (id:=12) (n:=nF fO) n (iZ dU p (bR n F) (eR p n F) n k) (λ_=>[]) (e:=.ex 2) (d1:=iY dU p (bR n F) (eR p n F) n k) (by kernel_rfl) (λ_=>by kernel_rfl) (λ_ _=>LT.nil)
  (λj hj=>⟨[true],[pT (aZ (show (j:Int)<(n:Int) by omega)),pP (show 0<=(j:Int)/\(j:Int)<(n:Int) by omega),pP (show 0<=(k:Int)/\(k:Int)<(p.nc:Int) by omega),pP (h.ok k j hk hj),bN (F j).s,pP (te h.all hk hj),qA aY (fY p n F) (k*n+j) (k*n+(j+1)) (yL p F k j) (by omega) (HO p F hj),qZ k,qZ k,pR (bR n F),qZ n,pI j (by have:=h.ln;omega)]++qR dU p (bR n F),by kernel_rfl⟩)
  ⟨[false],[pF (ce (show ¬(n:Int)<(n:Int) by omega)),qL aY (fY p n F) (k*n+n) ((k+1)*n) (by rw[Nat.succ_mul]),qZ k]++qR dU p (bR n F),by kernel_rfl⟩ nofun
noncomputable def nw(k:Nat):List (Nat×bO):=if k<p.nc then [(12,⟨nF fO,iZ dU p (bR n F) (eR p n F) n k 0,.ex 2,iY dU p (bR n F) (eR p n F) n k⟩)] else []
theorem Hr(h:dI p n λi=>(F i).s):bJ Tryz.prog (bm fO 6) ⟨nF fO,i9 dU p (bR n F) (eR p n F) n 0,.ex 0,ju (eR p n F) (p.nc*n)⟩ :=
 bW (X:=[aJ]) (K:=ll) (f:=fO) (id:=6) (n:=nF fO) p.nc (i9 dU p (bR n F) (eR p n F) n) (λk=>nw p n F k) (e:=.ex 0) (d1:=ju (eR p n F) (p.nc*n)) (by kernel_rfl) (λk=>by unfold nw;by_cases h:k<p.nc<;>simp only[h,if_true,if_false]<;>kernel_rfl) (λk _=>by
   unfold nw;by_cases hk:k<p.nc
   ·rw[if_pos hk];exact LT.cons (Hq p n F h k hk) LT.nil
   ·rw[if_neg hk];exact LT.nil)
  (λk hk => by
   unfold nw;rw[if_pos hk];exact⟨[true],[pT (aZ (show (k:Int)<(p.nc:Int) by omega)),qL aY (fY p n F) (k*n) (k*n+0) rfl,qZ k,qZ k,pR (bR n F),qZ n,q0]++qR dU p (bR n F)++[qL aY (fY p n F) ((k+1)*n) ((k+1)*n) rfl,pI k (by have:=h.nc;omega)]++qR dU p (bR n F),by kernel_rfl⟩)
  (by
   unfold nw;rw[if_neg (Nat.lt_irrefl _)];exact⟨[false],[pF (ce (show ¬(p.nc:Int)<(p.nc:Int) by omega)),qL aY (fY p n F) (p.nc*n) (p.nc*n) rfl],by kernel_rfl⟩) nofun
theorem HE(h:dI p n λi=>(F i).s):ae Tryz.prog fO [panV p,bR n F,oS dU] (.one (eR p n F (p.nc*n))) :=
 cD [aJ] ll [(6,⟨nF fO,i9 dU p (bR n F) (eR p n F) n 0,.ex 0,ju (eR p n F) (p.nc*n)⟩)] (LT.cons (Hr p n F h) LT.nil) [] ([⟨0*n=0,Nat.zero_mul n⟩,q0]++qR dU p (bR n F)) (by kernel_rfl)
end
def Ht:ah:=me dPan Hu (vu dU) fO (λp L _=>.one (eR p L.1 L.2 (p.nc*L.1))) (λp L _=>[dI p L.1 λi=>(L.2 i).s]) λp L _ h=>HE p L.1 L.2 h.1
end
set_option maxRecDepth 100000
section
def Yj:ah:=gi NS oL 118 (λe m=>.one ⟨true,cV (dV m e)⟩) (λe _=>[lw e]) λe m h=>YM e m.x m.y m.t m.m h.1
def xu:List ah:=[Yj]
theorem a35(k r:Int)(e:Nat->Ed)(m:bG)(h:∀i,i<1->lw (e i)):ae Tryz.prog 58 [bh ⟨k,1,e,r⟩,⟨true,aX m⟩] (.one (bf (cU k [dV m (e 0)] r))) :=
 dw [] xu [true,false] [pT (show decide ((0:Int)<((1:Nat):Int))=true by decide),pP (show 0<=(0:Int)/\(0:Int)<((1:Nat):Int) by decide),pP (h 0 (by decide)),pF (show decide ((0:Int)+1<((1:Nat):Int))=false by decide)] (by kernel_rfl)
theorem a36(k r:Int)(e:Nat->Ed)(m:bG)(h:∀i,i<2->lw (e i)):ae Tryz.prog 58 [bh ⟨k,2,e,r⟩,⟨true,aX m⟩] (.one (bf (cU k [dV m (e 0),dV m (e 1)] r))) :=
 dw [] xu [true,true,false] [pT (show decide ((0:Int)<((2:Nat):Int))=true by decide),pP (show 0<=(0:Int)/\(0:Int)<((2:Nat):Int) by decide),pP (h 0 (by decide)),pT (show decide ((0:Int)+1<((2:Nat):Int))=true by decide),pP (show 0<=(0:Int)+1/\(0:Int)+1<((2:Nat):Int) by decide),pP (h 1 (by decide)),pF (show decide ((0:Int)+1+1<((2:Nat):Int))=false by decide)] (by kernel_rfl)
theorem a37(k r:Int)(e:Nat->Ed)(m:bG)(h:∀i,i<3->lw (e i)):ae Tryz.prog 58 [bh ⟨k,3,e,r⟩,⟨true,aX m⟩] (.one (bf (cU k [dV m (e 0),dV m (e 1),dV m (e 2)] r))) :=
 dw [] xu [true,true,true,false] [pT (show decide ((0:Int)<((3:Nat):Int))=true by decide),pP (show 0<=(0:Int)/\(0:Int)<((3:Nat):Int) by decide),pP (h 0 (by decide)),pT (show decide ((0:Int)+1<((3:Nat):Int))=true by decide),pP (show 0<=(0:Int)+1/\(0:Int)+1<((3:Nat):Int) by decide),pP (h 1 (by decide)),pT (show decide ((0:Int)+1+1<((3:Nat):Int))=true by decide),pP (show 0<=(0:Int)+1+1/\(0:Int)+1+1<((3:Nat):Int) by decide),pP (h 2 (by decide)),pF (show decide ((0:Int)+1+1+1<((3:Nat):Int))=false by decide)] (by kernel_rfl)
theorem a38(k r:Int)(e:Nat->Ed)(m:bG)(h:∀i,i<4->lw (e i)):ae Tryz.prog 58 [bh ⟨k,4,e,r⟩,⟨true,aX m⟩] (.one (bf (cU k [dV m (e 0),dV m (e 1),dV m (e 2),dV m (e 3)] r))) :=
 dw [] xu [true,true,true,true,false] [pT (show decide ((0:Int)<((4:Nat):Int))=true by decide),pP (show 0<=(0:Int)/\(0:Int)<((4:Nat):Int) by decide),pP (h 0 (by decide)),pT (show decide ((0:Int)+1<((4:Nat):Int))=true by decide),pP (show 0<=(0:Int)+1/\(0:Int)+1<((4:Nat):Int) by decide),pP (h 1 (by decide)),pT (show decide ((0:Int)+1+1<((4:Nat):Int))=true by decide),pP (show 0<=(0:Int)+1+1/\(0:Int)+1+1<((4:Nat):Int) by decide),pP (h 2 (by decide)),pT (show decide ((0:Int)+1+1+1<((4:Nat):Int))=true by decide),pP (show 0<=(0:Int)+1+1+1/\(0:Int)+1+1+1<((4:Nat):Int) by decide),pP (h 3 (by decide)),pF (show decide ((0:Int)+1+1+1+1<((4:Nat):Int))=false by decide)] (by kernel_rfl)
theorem a39(k r:Int)(e:Nat->Ed)(m:bG)(h:∀i,i<8->lw (e i)):ae Tryz.prog 58 [bh ⟨k,8,e,r⟩,⟨true,aX m⟩] (.one (bf (cU k [dV m (e 0),dV m (e 1),dV m (e 2),dV m (e 3),dV m (e 4),dV m (e 5),dV m (e 6),dV m (e 7)] r))) :=
 dw [] xu [true,true,true,true,true,true,true,true,false] [pT (show decide ((0:Int)<((8:Nat):Int))=true by decide),pP (show 0<=(0:Int)/\(0:Int)<((8:Nat):Int) by decide),pP (h 0 (by decide)),pT (show decide ((0:Int)+1<((8:Nat):Int))=true by decide),pP (show 0<=(0:Int)+1/\(0:Int)+1<((8:Nat):Int) by decide),pP (h 1 (by decide)),pT (show decide ((0:Int)+1+1<((8:Nat):Int))=true by decide),pP (show 0<=(0:Int)+1+1/\(0:Int)+1+1<((8:Nat):Int) by decide),pP (h 2 (by decide)),pT (show decide ((0:Int)+1+1+1<((8:Nat):Int))=true by decide),pP (show 0<=(0:Int)+1+1+1/\(0:Int)+1+1+1<((8:Nat):Int) by decide),pP (h 3 (by decide)),pT (show decide ((0:Int)+1+1+1+1<((8:Nat):Int))=true by decide),pP (show 0<=(0:Int)+1+1+1+1/\(0:Int)+1+1+1+1<((8:Nat):Int) by decide),pP (h 4 (by decide)),pT (show decide ((0:Int)+1+1+1+1+1<((8:Nat):Int))=true by decide),pP (show 0<=(0:Int)+1+1+1+1+1/\(0:Int)+1+1+1+1+1<((8:Nat):Int) by decide),pP (h 5 (by decide)),pT (show decide ((0:Int)+1+1+1+1+1+1<((8:Nat):Int))=true by decide),pP (show 0<=(0:Int)+1+1+1+1+1+1/\(0:Int)+1+1+1+1+1+1<((8:Nat):Int) by decide),pP (h 6 (by decide)),pT (show decide ((0:Int)+1+1+1+1+1+1+1<((8:Nat):Int))=true by decide),pP (show 0<=(0:Int)+1+1+1+1+1+1+1/\(0:Int)+1+1+1+1+1+1+1<((8:Nat):Int) by decide),pP (h 7 (by decide)),pF (show decide ((0:Int)+1+1+1+1+1+1+1+1<((8:Nat):Int))=false by decide)] (by kernel_rfl)
def gk(m:bG)(s:Sh):Sh:=⟨s.k,s.n,λi=>dV m (s.e i),s.r⟩
structure xC (s:Sh):Prop where
 n:s.n=1\/s.n=2\/s.n=3\/s.n=4\/s.n=8
 e:∀i,i<s.n->lw (s.e i)
theorem a4a(s:Sh)(m:bG)(h:xC s):ae Tryz.prog 58 [bh s,⟨true,aX m⟩] (.one (bf (gk m s))):=by
 obtain⟨k,n,e,r⟩:=s;obtain⟨hn,he⟩:=h;simp only at hn he;rcases hn with rfl|rfl|rfl|rfl|rfl
 ·refine (a35 k r e m he).mono λ_ _ _ => lj (k := k) (r := r) (n := 1) (e' := λi => dV m (e i)) λi hi => ?_
  rcases (by omega:i=0) with rfl
  all_goals rfl
 ·refine (a36 k r e m he).mono λ_ _ _ => lj (k := k) (r := r) (n := 2) (e' := λi => dV m (e i)) λi hi => ?_
  rcases (by omega:i=0\/i=1) with rfl|rfl
  all_goals rfl
 ·refine (a37 k r e m he).mono λ_ _ _ => lj (k := k) (r := r) (n := 3) (e' := λi => dV m (e i)) λi hi => ?_
  rcases (by omega:i=0\/i=1\/i=2) with rfl|rfl|rfl
  all_goals rfl
 ·refine (a38 k r e m he).mono λ_ _ _ => lj (k := k) (r := r) (n := 4) (e' := λi => dV m (e i)) λi hi => ?_
  rcases (by omega:i=0\/i=1\/i=2\/i=3) with rfl|rfl|rfl|rfl
  all_goals rfl
 ·refine (a39 k r e m he).mono λ_ _ _ => lj (k := k) (r := r) (n := 8) (e' := λi => dV m (e i)) λi hi => ?_
  rcases (by omega:i=0\/i=1\/i=2\/i=3\/i=4\/i=5\/i=6\/i=7) with rfl|rfl|rfl|rfl|rfl|rfl|rfl|rfl
  all_goals rfl
def Gf:ah:=gi qh oL 58 (λs m=>.one (bf (gk m s))) (λs _=>[xC s]) λs m h=>a4a s m h.1
theorem a1E{e:Ed}(h:lw e){x y t:Int}(m:Bool)(hx:I64 x)(hy:I64 y)(ht:I64 t)(W:World):Calls Tryz.prog 86 #[fi e,.agg #[.int .i64 x,.int .i64 y,.int .i64 t,.bool m]] W λe' W'=>e'=.returned (fi (dV ⟨x,y,t,m⟩ e))/\ac W W':=by
 refine (Ze e x y t m h W _ (aK.2 ⟨_,Oh h.ok,_,rfl,aK.2 ⟨_,bL.2 ⟨_,bi.2 ⟨⟨aQ hx,hx⟩,_,rfl,bi.2 ⟨⟨aQ hy,hy⟩,_,rfl,bi.2 ⟨⟨aQ ht,ht⟩,_,rfl,nU.2 ⟨rfl,_,rfl,rfl⟩⟩⟩⟩,rfl⟩,_,rfl,rfl⟩⟩)).mono ?_;rintro e' W' ⟨v,rfl,hv,hx⟩;refine⟨?_,hx⟩;have:=Ul (l:=cV (dV ⟨x,y,t,m⟩ e)) rfl hv;rw[this];rfl
theorem xg(z:Int):I64 (IntKind.i64.wrap z):=by
 rw[IntKind.wrap_i64];unfold I64;omega
theorem a1t{e:Ed}(h:lw e)(m:bG):oj (dV m e):=by
 have hk:=nE h.ok;have c:=h.c;unfold s6 fb at c;have k0:I64 (if m.m then (jk e.k).k else e.k):=by
  rcases hk with k|k|k<;>rw[k]<;>cases m.m<;>(unfold I64;decide)
 refine⟨k0,xg _,xg _,xg _,xg _,?_,?_⟩
 ·show I64 (if e.k = 1 then e.cx else _);split
  ·unfold I64;omega
  ·exact xg _
 ·show I64 (if e.k = 1 then e.cy else _);split
  ·unfold I64;omega
  ·exact xg _
structure AB (s:Sh):Prop where
 lo:1<=s.n
 hi:s.n<=1000
 e:∀i,i<s.n->lw (s.e i)
theorem a52(s:Sh)(m:bG)(h:AB s):ae Tryz.prog 29 [bh s,⟨true,aX m⟩] (.one (bf (gk m s))):=by
 intro W vals hv;obtain⟨v1,_,rfl,h1,v2,_,rfl,h2,rfl⟩:=hv;obtain⟨p,c,rfl,hs⟩:=ShAt.of h1;obtain⟨cs,⟨_,_,rfl,⟨rfl,_,x1⟩,_,_,rfl,⟨rfl,_,x2⟩,_,_,rfl,⟨rfl,_,x3⟩,_,_,rfl,⟨rfl,_⟩,rfl⟩,rfl,_⟩:=h2;refine (TV s m.x m.y m.t m.m (λi=>dV m (s.e i)) p c W hs h.lo h.hi (λk hk W=>a1E (h.e k hk) m.m x1 x2 x3 W) λi hi=>a1t (h.e i hi) m).mono ?_;rintro e w' ⟨g,cp,rfl,⟨i1,i2⟩,hE,hx⟩;exact⟨_,rfl,⟨_,⟨[_],_,rfl,⟨rfl,aQ i1,i1⟩,[_],_,rfl,⟨_,rfl,hE⟩,[_],[],rfl,⟨rfl,aQ i2,i2⟩,rfl⟩,rfl,nofun⟩,hx⟩
def WL:ah:=gi qh oL 29 (λs m=>.one (bf (gk m s))) (λs _=>[AB s]) λs m h=>a52 s m h.1
end
set_option maxRecDepth 100000
section
def ez(n:Nat)(F:Nat->aI):V1:=cN 4 aS n F
theorem YI(x y r:Int):ae Tryz.prog 49 [⟨true,ptI (x,y)⟩,aj r lim] (.one (bf (fB x y r))):=dw [] [] [] [] (by kernel_rfl)
def NU:gg where
 α:=Int
 C:=λz=>aj z lim
 d:=fun|⟨false,[.i z _]⟩=>some (z,[])|_=>none
 ok:=by
  intro v a ps h hp W x hr;split at h<;>cases h;obtain⟨cs,⟨_,_,rfl,⟨rfl,_,i⟩,rfl⟩,e,h⟩:=hr;exact⟨_,⟨_,[],rfl,⟨rfl,aQ i,i⟩,rfl⟩,e,h⟩
def Bf:ah:=gi tD NU 49 (λp r=>.one (bf (fB p.1 p.2 r))) (λ_ _=>[]) λp r _=>YI p.1 p.2 r
def ar(F:Nat->aI):Nat->Nat
 | 0=>0|k+1=>if (F k).c then k+1 else ar F k
theorem jC(F:Nat->aI):∀k,ar F k<=k
 | 0=>Nat.le_refl 0|k+1=>by
  unfold ar;split
  ·exact Nat.le_refl _
  ·have:=jC F k;omega
def er:FuncId:=17
def tH(p:Pnl)(n:Nat)(F:Nat->aI)(o:Bool)(k:Nat):Ds:=⟨[(7,.le (aj (ar F k:Int) 2000)),(1,.eq (ez n F)),(2,.eq ⟨false,[.b o]⟩),(3,.eq (ak 0)),(14,.eq (ez n F)),(15,.le (aj (n:Int) lim)),(16,.le (aj (k:Int) 2000))],dQ p⟩
def tI(p:Pnl)(n:Nat)(F:Nat->aI)(o:Bool):Ds:=⟨[(7,.le (aj (ar F n:Int) 2000)),(1,.eq (ez n F)),(2,.eq ⟨false,[.b o]⟩),(3,.eq (ak 0))],dQ p⟩
def DC(F:Nat->aI)(k:Nat)(z:Int)(h:z=ar F (k+1))(hb:k<1000):Pf:=⟨z=(ar F (k+1):Int)/\z.natAbs<=2000,h,by have:=jC F (k+1);omega⟩
def qO(o:Bool):Pf:=pR ⟨false,[.b o]⟩
theorem Gm(p:Pnl)(n:Nat)(F:Nat->aI)(o:Bool)(hn:n<=1000):bJ Tryz.prog (bm er 6) ⟨nF er,tH p n F o 0,.ex 0,tI p n F o⟩ :=
 bW (X:=[aJ]) (K:=[]) (f:=er) (id:=6) (n:=nF er) n (tH p n F o) (λ_=>[]) (e:=.ex 0) (d1:=tI p n F o) (by kernel_rfl) (λ_=>by kernel_rfl) (λ_ _=>LT.nil)
  (λk hk => by
   have ih:0<=(k:Int)/\(k:Int)<(n:Int):=by omega
   cases h:(F k).c with|true=>exact⟨[true,true],[pT (aZ (show (k:Int)<(n:Int) by omega)),pP ih,pT h,DC F k ((k:Int)+1) (by unfold ar;rw[h];rfl) (by omega),pR (ez n F),qO o,pR (ak 0),pR (ez n F),qZ n,pI k (by omega)]++qP p,by kernel_rfl⟩|false=>exact⟨[true,false],[pT (aZ (show (k:Int)<(n:Int) by omega)),pP ih,pF h,⟨(ar F k:Int)=ar F (k+1),by simp[ar,h]⟩,pR (ez n F),qO o,pR (ak 0),pR (ez n F),qZ n,pI k (by omega)]++qP p,by kernel_rfl⟩)
  ⟨[false],[pF (ce (show ¬(n:Int)<(n:Int) by omega)),qZ (ar F n),pR (ez n F),qO o,pR (ak 0)]++qP p,by kernel_rfl⟩ nofun
def oM(p:Pnl)(n:Nat)(F:Nat->aI)(i:Nat):aI:=if i<p.nc*ar F n then fe p (ar F n) F i else fe p (n-ar F n) (λj=>F (ar F n+j)) (i-p.nc*ar F n)
def aM(p:Pnl)(n:Nat)(F:Nat->aI):Nat:=p.nc*ar F n+p.nc*(n-ar F n)
def bj(p:Pnl)(n:Nat)(F:Nat->aI)(i:Nat):aI:=if i<aM p n F then oM p n F i else ⟨fB (p.m (i-aM p n F)).1 (p.m (i-aM p n F)).2 p.r,false⟩
def tJ(p:Pnl)(n:Nat)(F:Nat->aI)(k:Nat):Ds:=⟨[(11,.le (fK (aM p n F+k) (bj p n F))),(3,.eq (ak 0)),(41,.eq (cN 2 ptI p.nm p.m)),(42,.le (aj p.nm lim)),(43,.le (aj (k:Int) 2000))],dQ p⟩
def tg:List ah:=[Bf,Gz]
def vv(p:Pnl)(k:Nat):List It:=[.i (fB (p.m k).1 (p.m k).2 p.r).k lim,fW (fB (p.m k).1 (p.m k).2 p.r).n (fB (p.m k).1 (p.m k).2 p.r).e,.i (fB (p.m k).1 (p.m k).2 p.r).r lim,.b false]
theorem BF(p:Pnl)(n:Nat)(F:Nat->aI)(k:Nat):(vv p k).map dB=aS (bj p n F (aM p n F+k)):=by
 unfold bj;rw[if_neg (by omega),Nat.add_sub_cancel_left];rfl
def tK(p:Pnl)(n:Nat)(F:Nat->aI):Ds:=⟨[(11,.le (fK (aM p n F+p.nm) (bj p n F)))],[]⟩
structure iq (p:Pnl) (n:Nat) (F:Nat->aI):Prop where
 rp:dI p n λi=>(F i).s
 nm:p.nc*n+p.nm<=1000
theorem rM(p:Pnl)(n:Nat)(F:Nat->aI):aM p n F=p.nc*n:=by
 have:=jC F n;unfold aM;rw[<- Nat.mul_add];congr 1;omega
theorem Gn(p:Pnl)(n:Nat)(F:Nat->aI)(h:iq p n F):bJ Tryz.prog (bm er 24) ⟨nF er,tJ p n F 0,.ex 2,tK p n F⟩ :=
 bW (X:=[aJ]) (K:=tg) (f:=er) (id:=24) (n:=nF er) p.nm (tJ p n F) (λ_=>[]) (e:=.ex 2) (d1:=tK p n F) (by kernel_rfl) (λ_=>by kernel_rfl) (λ_ _=>LT.nil)
  (λk hk => by
   have hN:=rM p n F;have hm:=h.nm;exact⟨[true],[pT (aZ (show (k:Int)<(p.nm:Int) by omega)),pP (show 0<=(k:Int)/\(k:Int)<(p.nm:Int) by omega),pP (show aM p n F+k+1<=1000 by omega),qA aS (bj p n F) (aM p n F+k) (aM p n F+(k+1)) (vv p k) rfl (BF p n F k),pR (ak 0),pR (cN 2 ptI p.nm p.m),qZ p.nm,pI k (by omega)]++qP p,by kernel_rfl⟩)
  ⟨[false],[pF (ce (show ¬(p.nm:Int)<(p.nm:Int) by omega)),qL aS (bj p n F) (aM p n F+p.nm) (aM p n F+p.nm) rfl],by kernel_rfl⟩ nofun
theorem QK{V W:World}{T:TypeId}{z n:Nat}{f g:Nat->List It}{x:Value}(h:∀i,i<n->f i=g i)(hr:bT V W (λ_=>0) 0 (.one ⟨false,[.ol T z n f]⟩) x):bT V W (λ_=>0) 0 (.one ⟨false,[.ol T z n g]⟩) x:=by
 obtain⟨cs,⟨c1,_,e1,h1,h2⟩,h3⟩:=hr;exact⟨cs,⟨c1,_,e1,by obtain⟨v,e,h1⟩:=h1;exact⟨v,e,qK (λi hi cs hc=>by rw[<- h i hi];exact hc) h1⟩,h2⟩,h3⟩
def k9(p:Pnl):List Pf:=[⟨∀j,j<p.nc->aX (p.c j)=aX (p.c j),λ_ _=>rfl⟩,⟨∀j,j<p.nt->bY (p.t j)=bY (p.t j),λ_ _=>rfl⟩,⟨∀j,j<p.nm->ptI (p.m j)=ptI (p.m j),λ_ _=>rfl⟩]
def qW(n:Nat)(F:Nat->aI):Pf:=⟨∀j,j<n->aS (F j)=aS (F j),λ_ _=>rfl⟩
theorem dI.front{p:Pnl}{n:Nat}{S:Nat->Sh}(h:dI p n S){f:Nat}(hf:f<=n):dI p f S :=
 ⟨h.nc,by have:=h.ln;omega,Nat.le_trans (Nat.mul_le_mul_left _ hf) h.all,λk j hk hj=>h.ok k j hk (by omega)⟩
theorem dI.back{p:Pnl}{n:Nat}{S:Nat->Sh}(h:dI p n S){f:Nat}(hf:f<=n):dI p (n-f) λi=>S (f+i) :=
 ⟨h.nc,by have:=h.ln;omega,Nat.le_trans (Nat.mul_le_mul_left _ (by omega)) h.all,λk j hk hj=>h.ok k (f+j) hk (by omega)⟩
def nk(p:Pnl)(n:Nat)(F:Nat->aI):Nat->List It:=iw (p.nc*ar F n) (λi=>aS (fe p (ar F n) F i)) (λi=>aS (fe p (n-ar F n) (λj=>F (ar F n+j)) i))
theorem Gu(p:Pnl)(n:Nat)(F:Nat->aI)(i:Nat):nk p n F i=aS (oM p n F i):=by
 unfold nk iw oM;split<;>rfl
theorem yu(p:Pnl)(n:Nat)(F:Nat->aI)(i:Nat)(h:i<aM p n F):nk p n F i=aS (bj p n F i):=by
 rw[Gu];unfold bj;rw[if_pos h]
def yr(p:Pnl)(n:Nat)(F:Nat->aI)(h:iq p n F):List Pf :=
 [pP (show 0<=(ar F n:Int)/\(ar F n:Int)<=(n:Int) by have:=jC F n;omega),pP (h.rp.front (jC F n))]++k9 p++[qW (ar F n) F,pP (show 0<=(ar F n:Int)/\(ar F n:Int)<=(n:Int) by have:=jC F n;omega),pP (h.rp.back (jC F n))]++k9 p++[qW (n-ar F n) λj=>F (ar F n+j),pP (show p.nc*ar F n+p.nc*(n-ar F n)<=1000 by have:=rM p n F;unfold aM at this;have:=h.nm;omega)]
def yq(p:Pnl)(n:Nat)(F:Nat->aI)(o:Bool):List Pf:=[q0,pR (ez n F),qO o,pR (ak 0),pR (ez n F),qZ n,q0]++qP p
noncomputable def tL(p:Pnl)(n:Nat)(F:Nat->aI)(o:Bool):List (Nat×bO):=[(6,⟨nF er,tH p n F o 0,.ex 0,tI p n F o⟩),(24,⟨nF er,tJ p n F 0,.ex 2,tK p n F⟩)]
theorem yp(p:Pnl)(n:Nat)(F:Nat->aI)(o:Bool)(h:iq p n F):LT er (tL p n F o):=LT.cons (Gm p n F o h.rp.ln) (LT.cons (Gn p n F h) LT.nil)
theorem Gw(p:Pnl)(n:Nat)(F:Nat->aI)(h:iq p n F):ae Tryz.prog er [panV p,ez n F,⟨false,[.b true]⟩] (.one (fK (aM p n F+p.nm) (bj p n F))) :=
 cD [aJ] tg (tL p n F true) (yp p n F true h) [] (yq p n F true++yr p n F h++[⟨p.nc*ar F n+p.nc*(n-ar F n)=aM p n F+0/\∀i,i<p.nc*ar F n+p.nc*(n-ar F n)->nk p n F i=(λi=>aS (bj p n F i)) i,rfl,λi hi=>yu p n F i hi⟩,pR (ak 0),pR (cN 2 ptI p.nm p.m),qZ p.nm,q0]++qP p) (by kernel_rfl)
theorem Gt(p:Pnl)(n:Nat)(F:Nat->aI)(h:iq p n F):ae Tryz.prog er [panV p,ez n F,⟨false,[.b false]⟩] (.one ⟨false,[.ol 72 4 (aM p n F) (nk p n F)]⟩) :=
 cD [aJ] tg (tL p n F false) (yp p n F false h) [] (yq p n F false++yr p n F h) (by kernel_rfl)
theorem Gs(p:Pnl)(n:Nat)(F:Nat->aI)(h:iq p n F):ae Tryz.prog er [panV p,ez n F,⟨false,[.b false]⟩] (.one (fK (aM p n F) (bj p n F))) :=
 (Gt p n F h).mono λV W x hr=>QK (λi hi=>yu p n F i hi) hr
end
set_option maxRecDepth 100000
section
def BR:FuncId:=61
theorem xh:I64 0:=by unfold I64;omega
theorem Ns(n:Nat)(e:Nat->Ed)(h1:1<=n)(hn:n<=1000):ae Tryz.prog BR [⟨false,[pE n e]⟩] (.one ⟨false,[fW n e]⟩):=by
 intro W vals hv;obtain⟨v,_,rfl,⟨cs,⟨_,_,rfl,⟨u,rfl,hr⟩,rfl⟩,rfl,_⟩,rfl⟩:=hv;obtain⟨p,c,rfl,k1,k2,k3⟩:=id hr;have S:ShAt W ⟨0,n,e,0⟩ p c:=⟨xh,xh,k1,k2,hr⟩;refine (Nr n e p c W S.edr h1 hn).mono ?_;rintro x w' ⟨_,rfl,g,c',cur,rfl,_,hb,h2,h3,h4,hx⟩;have hsz:n*7<=cur.size:=by
  have:=congrArg List.length h4;rw[lS,List.length_take,Array.length_toList] at this;omega
 refine⟨_,rfl,⟨_,⟨[_],[],rfl,⟨_,rfl,_,c',rfl,h2,h3,λi hi=>⟨g,0,cur,(0,0),rfl,hb,?_,⟨cur.toList.drop (i*7+7),?_⟩,?_⟩⟩,rfl⟩,rfl,λ_=>rfl⟩,hx⟩
 ·have := Nat.mul_le_mul_right 7 (show i + 1 <= n from hi);omega
 ·have e1 : cur.toList = cY e n ++ cur.toList.drop (n * 7) := by rw [<- h4, List.take_append_drop]
  have:=S9 e hi (cur.toList.drop (n*7));rw[<- e1] at this;rw[Nat.zero_add,<- List.drop_drop];show _=eo (e i)++_;rw[<- this,List.take_append_drop]
 ·obtain ⟨g, o, xs, T, _, _, _, cs, d, _, k⟩ := k3 i hi;exact (JK (l:=e7 (e i)) k).2
def NT:gg where
 α:=Nat×(Nat->Ed)
 C:=λa=>⟨false,[pE a.1 a.2]⟩
 d:=fun|⟨false,[i]⟩=>(td i).map λnf=>((nf.1,λj=>qj (nf.2 j)),[∀j,j<nf.1->qz (nf.2 j)=true])|_=>none
 ok:=by
  intro v a ps h hp W x hr;split at h
  ·rename_i i;cases hq:td i with|none=>simp[hq] at h|some nf =>
    obtain⟨n,f⟩:=nf;simp only[hq,Option.map_some,Option.some.injEq,Prod.mk.injEq] at h;obtain⟨rfl,rfl⟩:=h;exact af.val (KT hq hp.1 hr.scal)
  ·cases h
def Wb:ah:=qe NT BR (λa=>.one ⟨false,[fW a.1 a.2]⟩) (λa=>[1<=a.1/\a.1<=1000]) λa h=>Ns a.1 a.2 h.1.1 h.1.2
def kQ:FuncId:=20
def xA:List ah:=[Wb,Ht]
def bQ(p:Pnl)(n:Nat)(F:Nat->cA)(y:Int)(i:Nat):cA:=if i<p.nc*n then fY p n F i else ⟨p.t (i-p.nc*n),1,y,false⟩
def tY(p:Pnl)(n:Nat)(F:Nat->cA)(y:Int)(k:Nat):Ds:=⟨[(7,.le (gW (p.nc*n+k) (bQ p n F y))),(2,.eq (aj y lim)),(3,.eq (ak 0)),(14,.eq (cN 3 bY p.nt p.t)),(15,.le (aj p.nt lim)),(16,.le (aj (k:Int) 2000))],dQ p⟩
def ua(p:Pnl)(y:Int)(k:Nat):List It:=[.i (p.t k).k lim,fW (p.t k).n (p.t k).e,.i (p.t k).r lim,.k 1,.i y lim,.b false]
theorem Ho(p:Pnl)(n:Nat)(F:Nat->cA)(y:Int)(k:Nat):(ua p y k).map dB=aY (bQ p n F y (p.nc*n+k)):=by
 unfold bQ;rw[if_neg (by omega),Nat.add_sub_cancel_left];rfl
def tZ(p:Pnl)(n:Nat)(F:Nat->cA)(y:Int):Ds:=⟨[(7,.le (gW (p.nc*n+p.nt) (bQ p n F y)))],[]⟩
structure oq (p:Pnl) (n:Nat) (F:Nat->cA):Prop where
 rp:dI p n λi=>(F i).s
 nt:p.nc*n+p.nt<=1000
 t:∀i,i<p.nt->1<=(p.t i).n/\(p.t i).n<=1000
theorem Hn(p:Pnl)(n:Nat)(F:Nat->cA)(y:Int)(h:oq p n F):bJ Tryz.prog (bm kQ 6) ⟨nF kQ,tY p n F y 0,.ex 0,tZ p n F y⟩ :=
 bW (X:=[aJ]) (K:=xA) (f:=kQ) (id:=6) (n:=nF kQ) p.nt (tY p n F y) (λ_=>[]) (e:=.ex 0) (d1:=tZ p n F y) (by kernel_rfl) (λ_=>by kernel_rfl) (λ_ _=>LT.nil)
  (λk hk => by
   have hm:=h.nt;exact⟨[true],[pT (aZ (show (k:Int)<(p.nt:Int) by omega)),pP (show 0<=(k:Int)/\(k:Int)<(p.nt:Int) by omega),pP (h.t k hk),bN (p.t k),pP (show p.nc*n+k+1<=1000 by omega),qA aY (bQ p n F y) (p.nc*n+k) (p.nc*n+(k+1)) (ua p y k) rfl (Ho p n F y k),pR (aj y lim),pR (ak 0),pR (cN 3 bY p.nt p.t),qZ p.nt,pI k (by omega)]++qP p,by kernel_rfl⟩)
  ⟨[false],[pF (ce (show ¬(p.nt:Int)<(p.nt:Int) by omega)),qL aY (bQ p n F y) (p.nc*n+p.nt) (p.nc*n+p.nt) rfl],by kernel_rfl⟩ nofun
theorem Hm(p:Pnl)(n:Nat)(F:Nat->cA)(y:Int)(i:Nat)(h:i<p.nc*n):(λi=>aY (fY p n F i)) i=(λi=>aY (bQ p n F y i)) i:=by
 show _=aY (bQ p n F y i);unfold bQ;rw[if_pos h]
theorem Hz(p:Pnl)(n:Nat)(F:Nat->cA)(y:Int)(h:oq p n F):ae Tryz.prog kQ [panV p,cN 6 aY n F,aj y lim] (.one (gW (p.nc*n+p.nt) (bQ p n F y))) :=
 cD [aJ] xA [(6,⟨nF kQ,tY p n F y 0,.ex 0,tZ p n F y⟩)] (LT.cons (Hn p n F y h) LT.nil) [] ([pP h.rp]++k9 p++[⟨∀j,j<n->aY (F j)=aY (F j),λ_ _=>rfl⟩,⟨p.nc*n=p.nc*n+0/\∀i,i<p.nc*n->(λi=>aY (fY p n F i)) i=(λi=>aY (bQ p n F y i)) i,rfl,λi hi=>Hm p n F y i hi⟩,pR (aj y lim),pR (ak 0),pR (cN 3 bY p.nt p.t),qZ p.nt,q0]++qP p) (by kernel_rfl)
def FI:ah:=me dPan tC yi kQ (λp L y=>.one (gW (p.nc*L.1+p.nt) (bQ p L.1 L.2 y))) (λp L _=>[oq p L.1 L.2]) λp L y h=>Hz p L.1 L.2 y h.1
end
end Go.Proofs.YtghemgdfmldoeaaGreat
