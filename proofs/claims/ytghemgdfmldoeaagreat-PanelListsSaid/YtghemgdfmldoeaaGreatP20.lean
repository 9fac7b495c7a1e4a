import Derived.Test.YtghemgdfmldoeaaGreatP19
set_option linter.unusedVariables false
set_option linter.unusedSimpArgs false
namespace Go.Proofs.YtghemgdfmldoeaaGreat
open Go.RowKit
set_option maxHeartbeats 8000000
set_option maxRecDepth 100000
section
theorem zh{w:World}{B e g N c:Nat}{pre o z:List Nat}{x i:Nat}(h:w.ownsRow B e 1 (.slice (some ⟨g,0,none⟩) N c) N (enc (pre++(o++x::z))))(hi:i=pre.length+o.length):w.cell? ⟨g,i,none⟩=some (.int .u32 (x:Int)):=by
 have hl:=wj h;subst hi;simp only[List.length_append,List.length_cons] at hl;rw[h.cellAt _ (by omega),rO _ _ (by simp),<- List.append_assoc,List.getElem?_append_right (by simp)];simp
theorem wl{w:World}{B e g N c:Nat}{pre o z:List Nat}{x i:Nat}(h:w.ownsRow B e 1 (.slice (some ⟨g,0,none⟩) N c) N (enc (pre++(o++x::z))))(hi:i=pre.length+o.length)(y:Nat) :
  (w.setCell ⟨g,i,none⟩ (.int .u32 (y:Int))).ownsRow B e 1 (.slice (some ⟨g,0,none⟩) N c) N (enc (pre++((o++[y])++z))):=by
 subst hi;obtain⟨h3,_⟩:=h.stored (pre.length+o.length) (.int .u32 (y:Int));have e:(enc (pre++(o++x::z))).set (pre.length+o.length) (.int .u32 (y:Int))=enc (pre++((o++[y])++z)):=by
  have:=GY (pre++o) z y x;rw[List.length_append,List.append_assoc,List.append_assoc,List.append_assoc] at this;rw[this,List.append_assoc]
 rw[e] at h3;exact h3
theorem drop_at{d:List Nat}{k:Nat}(h:k<d.length):d.drop k=d[k]?.getD 0::d.drop (k+1):=by rw[List.drop_eq_getElem_cons h,kS h]
theorem Vx(t:Nat)(ht:t<18446744073709551616):bits .and .u64 (t:Int) 4294967295=((t%4294967296:Nat):Int):=by
 have:=u64_and_nat t 4294967295 ht (by omega);rw[show ((4294967295:Nat):Int)=4294967295 from rfl] at this;rw[this,show (4294967295:Nat)=2 ^ 32-1 from rfl,Nat.and_two_pow_sub_one_eq_mod]
theorem Uw(n:Int):IntKind.u64.wrap n=n%18446744073709551616:=by simp[IntKind.wrap,IntKind.signed,IntKind.bits]
theorem Qa(x a b:Nat)(hx:x<4294967296)(ha:a<4294967296)(hb:b<=1):∃y1 y2:Nat,IntKind.u64.wrap ((x:Int)-(a:Int))=(y1:Int)/\IntKind.u64.wrap ((y1:Int)-(b:Int))=(y2:Int) /\
  (y2:Int)%4294967296=(((x+8589934592-a-b)%4294967296:Nat):Int)/\(y2:Int)/9223372036854775808=((if x<a+b then 1 else 0:Nat):Int)/\(a+b<=x->y2=x-a-b):=by
 refine⟨if a<=x then x-a else x+18446744073709551616-a,if a+b<=x then x-a-b else x+18446744073709551616-a-b,?_,?_,?_,?_,?_⟩
 ·rw[Uw];split<;>omega
 ·rw[Uw];split<;>split<;>omega
 ·split<;>omega
 ·split<;>split<;>omega
 ·intro h;rw[if_pos h]
theorem a18(pre part post v:List Nat)(g K N n cu cv B q:Nat)(pv:Option Addr)(w:World)(hown:w.ownsRow B 186 1 (.slice (some ⟨g,0,none⟩) N N) N (enc (pre++(part++post))))(hK:pre.length=K)(hp:part.length=n+1)(hvl:v.length=n)
  (hv:Row w pv cv v) (hne:∀x,pv=some x->x.block≠g) (dp:ao part) (hn:0<n) (hn2:n<=1000) (hcu:n+1<=cu) (hcu2:cu<=9223372036854775807) (hV:0<val v) (hq:q<4294967296) (hq1:val part/val v<=q) (hq2:q<=val part/val v+1) :
  Calls Tryz.prog 262 #[.slice (some ⟨g,K,none⟩) (n+1) cu,.slice pv n cv,.int .u64 (q:Int)] w λe w' =>
   ∃part':List Nat,part'.length=n+1/\ao part'/\val part'=val part%val v/\e=.returned (.int .u32 ((val part/val v:Nat):Int)) /\
    w'.ownsRow B 186 1 (.slice (some ⟨g,0,none⟩) N N) N (enc (pre++(part'++post)))/\w.grownBy w' (some g):=by
 have lv0:=hv.le;have lv1:=hv.max;have hgw:g<w.heap.size:=(hown.lt g rfl).2;have DV:=Lib.hid hv.dig;have DP:=Lib.hid dp;have HV:=Lib.hid hv;have HNE:=Lib.hid hne;have HPL:=Lib.hid hp;have HVL:=Lib.hid hvl;clear hv hne dp;have hown0:w.ownsRow B 186 1 (.slice (some ⟨g,0,none⟩) N N) N (enc (pre++([]++(part.drop 0++post)))):=by rw[List.drop_zero];exact hown
 go_enter Tryz.func262,Tryz.ntmps262;go_wp2_with fail;go_loopw [7,8,17] (λcs bs k wr=>∃(o:List Nat) (c b:Nat),o.length<=n/\cs=.int .u64 (c:Int)/\bs=.int .u64 (b:Int)/\k=.int .i64 (o.length:Int)/\xG q part v o c b/\wr.ownsRow B 186 1 (.slice (some ⟨g,0,none⟩) N N) N (enc (pre++(o++(part.drop o.length++post))))/\w.grownBy wr (some g)) (λ_ _ k _=>n-(intOf k).toNat)
 case atStart=>exact⟨[],0,0,Nat.zero_le _,rfl,rfl,rfl,⟨ao.nil,Nat.zero_le _,Nat.zero_le _,by simp[val]⟩,hown0,⟨rfl,rfl,rfl,Nat.le_refl _,λ_ _ _=>rfl⟩⟩
 case round =>
  clear hown hown0;obtain⟨o,c,b,ho,rfl,rfl,rfl,hinv,hown,hgr⟩:=hrel;by_cases hlt:o.length<n
  ·have hvr := HV.out.grown (λ_ => HNE.out) hgr;obtain⟨bv,ov,rfl,hbv,hcv⟩:=hvr.at (by omega);have hc1:=hcv o.length (by omega);have hdd:=DV.out.getD o.length;have hxx:=DP.out.getD o.length;rw[List.getD_eq_getElem?_getD] at hdd hxx;rw[drop_at (show o.length<part.length by omega),List.cons_append] at hown;obtain⟨d,D⟩:∃x,Hid (v[o.length]?.getD 0=x):=⟨_,rfl⟩;obtain⟨x,X⟩:∃x,Hid (part[o.length]?.getD 0=x):=⟨_,rfl⟩;rw[D.out] at hc1 hdd;rw[X.out] at hown hxx;have hcx:=zh (i:=K+o.length) hown (by omega);have hfx:=hown.frozenAt (K+o.length);obtain⟨STEP,hT⟩:=a4z hq hinv X.out D.out hdd hxx
   have hc:=hinv.2.1;have hb:=hinv.2.2.1;have QD:(q:Int)*(d:Int)=((q*d:Nat):Int):=by push_cast;rfl
   obtain⟨t,T⟩:∃t,Hid (q*d=t):=⟨_,rfl⟩;rw[T.out] at QD STEP hT;have CT:(c:Int)+(t:Int)=((c+t:Nat):Int):=by omega
   obtain⟨u,HU⟩:∃u,Hid (c+t=u):=⟨_,rfl⟩;rw[HU.out] at CT STEP hT;have htu:t<18446744073709551616:=by have:=HU.out;omega
   have AN:=Vx u hT;have hlo:u%4294967296<4294967296:=Nat.mod_lt _ (by omega);obtain⟨lo,LO⟩:∃lo,Hid (u%4294967296=lo):=⟨_,rfl⟩;rw[LO.out] at AN STEP hlo;obtain⟨y1,y2,M1,M2,M3,M4,_⟩:=Qa x lo b hxx hlo hb;obtain⟨y,Y⟩:∃y,Hid ((x+8589934592-lo-b)%4294967296=y):=⟨_,rfl⟩;obtain⟨b',B'⟩:∃b':Nat,Hid ((if x<lo+b then (1:Nat) else 0)=b'):=⟨_,rfl⟩;rw[Y.out] at M3 STEP;rw[B'.out] at M4 STEP;obtain⟨c',C'⟩:∃c',Hid (u/4294967296=c'):=⟨_,rfl⟩;rw[C'.out] at STEP;have UC:(u:Int)/4294967296=(c':Int):=by have:=C'.out;omega
   have OWN:=Lib.hid (wl (i:=K+o.length) hown (by omega) y);have G3:=Lib.hid (grownBy_trans hgr (grownBy_setCell wr ⟨g,K+o.length,none⟩ (.int .u32 (y:Int))));have SS:=Lib.hid STEP;clear hown hgr hvr hcv STEP hinv;go_wp2;refine⟨⟨o++[y],c',b',by rw[List.length_append,List.length_singleton];omega,rfl,rfl,by rw[List.length_append,List.length_singleton];push_cast;rfl,SS.out,?_,G3.out⟩,by simp[intOf];omega⟩;rw[List.length_append,List.length_singleton];exact OWN.out
  ·have hol : o.length = n := by omega
   have hpl:part.length=n+1:=HPL.out;rw[hol,drop_at (show n<part.length by omega),List.drop_of_length_le (show part.length<=n+1 by omega),List.cons_append,List.nil_append] at hown;have hxx:=DP.out.getD n;rw[List.getD_eq_getElem?_getD] at hxx;obtain⟨x,X⟩:∃x,Hid (part[n]?.getD 0=x):=⟨_,rfl⟩;rw[X.out] at hown hxx;have hcx:=zh (i:=K+n) hown (by omega);have hfx:=hown.frozenAt (K+n);have hc:=hinv.2.1;have hb:=hinv.2.2.1;obtain⟨y1,y2,M1,M2,M3,M4,M5⟩:=Qa x c b hxx (by omega) hb;by_cases hle:c+b<=x
   ·
    have hy2:=M5 hle;have E:=a4y (x:=x) hinv (hol.trans HVL.out.symm) (by rw[HVL.out];exact hpl) (by rw[HVL.out];exact X.out) hle;obtain⟨Q1,Q2⟩:=Rn hV E hq1;have hyb:x-c-b<4294967296:=by omega
    have hD:=hinv.1.append (ao.cons hyb ao.nil);rw[<- hy2] at Q2 hyb hD;have R3:(y2:Int)%4294967296=(y2:Int):=by omega
    have R4:(y2:Int)/9223372036854775808=0:=by omega
    have R5:(q:Int)%4294967296=(q:Int):=by omega
    have OWN:=Lib.hid (wl (i:=K+n) hown (by omega) y2);have G3:=Lib.hid (grownBy_trans hgr (grownBy_setCell wr ⟨g,K+n,none⟩ (.int .u32 (y2:Int))));have HQ1:=Lib.hid Q1;have HQ2:=Lib.hid Q2;have HD:=Lib.hid hD;clear hown hgr hinv M3 M4 M5 E Q1 Q2 hD hy2;go_wp2;go_ret;refine⟨o++[y2],by rw[List.length_append,List.length_singleton,hol],HD.out,HQ2.out,by rw[<- HQ1.out];rfl,?_,G3.out⟩;have:=OWN.out;exact this
   ·have E := a4x (x := x) hinv hq (hol.trans HVL.out.symm) (by rw [HVL.out]; exact hpl) (by rw [HVL.out]; exact X.out) (by omega);have hye:(x+8589934592-c-b)%4294967296=x+4294967296-c-b:=by omega
    obtain⟨y,Y⟩:∃y,Hid (x+4294967296-c-b=y):=⟨_,rfl⟩;rw[hye,Y.out] at M3;rw[Y.out] at E;have hyb:y<4294967296:=by have:=Y.out;omega
    rw[if_pos (show x<c+b by omega)] at M4;have R4:(y2:Int)/9223372036854775808=1:=M4;have DO:=Lib.hid hinv.1;have EE:=Lib.hid E;have hown1:=wl (i:=K+n) hown (by omega) y;have OWN:=Lib.hid hown1;have G3:=Lib.hid (grownBy_trans hgr (grownBy_setCell wr ⟨g,K+n,none⟩ (.int .u32 (y:Int))));clear hown hown1 hgr hinv M4 M5 E hye;have hob:(o++[y]).length=n+1:=by rw[List.length_append,List.length_singleton,hol]
    have hown0:(wr.setCell ⟨g,K+n,none⟩ (.int .u32 (y:Int))).ownsRow B 186 1 (.slice (some ⟨g,0,none⟩) N N) N (enc (pre++([]++((o++[y]).drop 0++post)))):=OWN.out;have HOB:=Lib.hid hob;have HOL:=Lib.hid hol;have DOY:=Lib.hid (DO.out.append (ao.cons hyb ao.nil));have OY:=Lib.hid (show (o++[y])[n]?.getD 0=y by rw[List.getElem?_append_right (by omega),hol,Nat.sub_self];rfl);obtain⟨u,HU⟩:∃u,Hid (o++[y]=u):=⟨_,rfl⟩;rw[HU.out] at hown0 hob DOY OY;have wn1:wr.cell? ⟨g,K+n,none⟩=some (.int .u32 (x:Int)):=hcx;clear hol hob;go_wp2_with fail
    go_loopw [7,71] (λcs k w1=>∃(p:List Nat) (s:Nat),p.length<=n/\cs=.int .u64 (s:Int)/\k=.int .i64 (p.length:Int)/\uI u v p s/\w1.ownsRow B 186 1 (.slice (some ⟨g,0,none⟩) N N) N (enc (pre++(p++(u.drop p.length++post))))/\w.grownBy w1 (some g)) (λ_ k _=>n-(intOf k).toNat)
    case atStart=>exact⟨[],0,Nat.zero_le _,rfl,rfl,⟨ao.nil,by omega,by simp[val]⟩,hown0,G3.out⟩
    case round =>
     clear hown0 G3 wn1 hcx hfx OWN;obtain⟨p,s,hp,rfl,rfl,hinv,hown,hgr⟩:=hrel;by_cases hlt2:p.length<n
     ·have hvr := HV.out.grown (λ_ => HNE.out) hgr;obtain⟨bv,ov,rfl,hbv,hcv⟩:=hvr.at (by omega);have hc1:=hcv p.length (by omega);have hdd:=DV.out.getD p.length;have hzz:=DOY.out.getD p.length;rw[List.getD_eq_getElem?_getD] at hdd hzz;rw[drop_at (show p.length<u.length by rw[<- HU.out,HOB.out];omega),List.cons_append] at hown;have STEP:=Ug DOY.out DV.out hinv;have hs:=hinv.2.1;obtain⟨d,D⟩:∃x,Hid (v[p.length]?.getD 0=x):=⟨_,rfl⟩;obtain⟨z,Z⟩:∃x,Hid (u[p.length]?.getD 0=x):=⟨_,rfl⟩;rw[D.out] at hc1 hdd STEP;rw[Z.out] at hown hzz STEP;have hcx:=zh (i:=K+p.length) hown (by omega)
      have hfx:=hown.frozenAt (K+p.length);obtain⟨e,E1⟩:∃e,Hid ((s+(z+d))%4294967296=e):=⟨_,rfl⟩;obtain⟨s',S1⟩:∃s',Hid ((s+(z+d))/4294967296=s'):=⟨_,rfl⟩;rw[E1.out,S1.out] at STEP;have R1:((s:Int)+((z:Int)+(d:Int)))%4294967296=(e:Int):=by have:=E1.out;omega
      have R2:((s:Int)+((z:Int)+(d:Int)))/4294967296=(s':Int):=by have:=S1.out;omega
      have OWN:=Lib.hid (wl (i:=K+p.length) hown (by omega) e);have G4:=Lib.hid (grownBy_trans hgr (grownBy_setCell _ ⟨g,K+p.length,none⟩ (.int .u32 (e:Int))));have SS:=Lib.hid STEP;clear hown hgr hvr hcv STEP hinv;go_wp2;refine⟨⟨p++[e],s',by rw[List.length_append,List.length_singleton];omega,rfl,by rw[List.length_append,List.length_singleton];push_cast;rfl,SS.out,?_,G4.out⟩,by simp[intOf];omega⟩;rw[List.length_append,List.length_singleton];exact OWN.out
     ·have hpn : p.length = n := by omega
      have hul:u.length=n+1:=by rw[<- HU.out];exact HOB.out
      rw[hpn,drop_at (show n<u.length by omega),OY.out,List.drop_of_length_le (show u.length<=n+1 by omega),List.cons_append,List.nil_append] at hown;have hcx:=zh (i:=K+n) hown (by omega);have hfx:=hown.frozenAt (K+n);have hs:=hinv.2.1;have hinv':=hinv;rw[<- HU.out] at hinv';obtain⟨F1,F2,F3,F4⟩:=a4w (y:=y) EE.out (HOL.out.trans HVL.out.symm) (hpn.trans HVL.out.symm) hinv' hyb DO.out DP.out (by rw[HVL.out];exact hpl) hV hq2;have R1:((y:Int)+(s:Int))%4294967296=((0:Nat):Int):=by omega
      have R2:(s:Int)%4294967296=(s:Int):=by omega
      have R3:((q:Int)-1)%4294967296=((q-1:Nat):Int):=by omega
      obtain⟨q',Q'⟩:∃q',Hid (q-1=q'):=⟨_,rfl⟩;have R5:(q:Int)-1=(q':Int):=by have:=Q'.out;omega
      rw[Q'.out] at R3 F2;have OWN:=Lib.hid (wl (i:=K+n) hown (by omega) 0);have G4:=Lib.hid (grownBy_trans hgr (grownBy_setCell _ ⟨g,K+n,none⟩ (.int .u32 ((0:Nat):Int))));have HF2:=Lib.hid F2;have HF4:=Lib.hid F4;have DPP:=Lib.hid hinv.1;clear hown hgr hinv hinv' F1 F2 F4;go_wp2;go_ret;refine⟨p++[0],by rw[List.length_append,List.length_singleton,hpn],DPP.out.append (ao.cons (by omega) ao.nil),?_,by rw[<- HF2.out];rfl,OWN.out,G4.out⟩;rw[tf,Nat.mul_zero,Nat.add_zero];exact HF4.out
end
set_option maxHeartbeats 2000000
set_option maxRecDepth 100000
section
theorem row_one(W:World)(r B:Nat)(T:TypeId)(h1:r<4294967296)(hB:B=W.heap.size):Row (W.alloc (.cells #[.int .u32 (r:Int)] T)) (some ⟨B,0,none⟩) 1 [r]:=by
 subst hB;refine⟨by simp,by omega,ao.cons h1 ao.nil,λ_=>⟨_,0,rfl,by simp,λi hi'=>?_⟩⟩;have h:=heap_alloc_new W (.cells #[.int .u32 (r:Int)] T);rw[cell_of_row _ _ (0+i) _ _ _ h];simp only[List.length_cons,List.length_nil] at hi';match i,hi' with|0,_=>rfl
def rE(w:World)(q r:List Nat)(e:Ending)(w':World):Prop :=
 ∃p c p2 c2,e=.returned (.tuple #[.slice p q.length c,.slice p2 r.length c2])/\Row w' p c q/\Row w' p2 c2 r/\ac w w'
theorem xd(x:Nat):val [x]=x:=by simp[val]
theorem FY{a b:List Nat}(ha:ao a)(hb:ao b)(ta:ee a)(tb:ee b):cmpL a b<0 <-> val a<val b:=by
 rw[Bw ha hb ta tb];unfold ni
 (repeat' split)<;>omega
theorem KF{b:List Nat}(tb:ee b)(h:0<b.length):0<val b:=by
 rcases Nat.eq_zero_or_pos (val b) with h0|h0
 ·exfalso;rcases List.eq_nil_or_concat b with rfl|⟨c,x,rfl⟩
  ·simp at h
  ·have hx : x ≠ 0 := by have := tb (by simp); simpa using this
   rw[List.concat_eq_append,val_append,xd] at h0;have h1:0<4294967296 ^ c.length:=Nat.pow_pos (by omega);have h2:=Nat.mul_pos h1 (show 0<x by omega);omega
 ·exact h0
theorem Qy(a b:List Nat)(pa pb:Option Addr)(la ca lb cb:Nat)(w:World)(ha:Row w pa ca a)(hb:Row w pb cb b)(hla:la=a.length)(hlb:lb=b.length)(ta:ee a)(tb:ee b)
  (hlt:val a<val b):Calls Tryz.prog 204 #[.slice pa la ca,.slice pb lb cb] w (rE w (cJ (val a/val b)) (cJ (val a%val b))):=by
 have hc:decide (cmpL a b<0)=true:=by simpa using (FY ha.dig hb.dig ta tb).2 hlt
 have CP:=Lib.hid (λw' (hx:ac w w')=>uq a b pa pb la ca lb cb w' (ha.ext hx) (hb.ext hx) hla hlb);rw[Nat.div_eq_of_lt hlt,Nat.mod_eq_of_lt hlt,ji,BD ha.dig ta];subst hla hlb;go_enter Tryz.func204,Tryz.ntmps204;go_wp2_with fail;refine (CP.out _ ag).mono ?_;rintro e w1 ⟨rfl,hx⟩;go_wp2;go_ret2;exact⟨none,0,pa,ca,rfl,Row.nil _,ha.ext hx,hx⟩
theorem a13(a:List Nat)(x:Nat)(pa pb:Option Addr)(la ca lb cb:Nat)(w:World)(ha:Row w pa ca a)(hb:Row w pb cb [x])(hla:la=a.length)(hlb:lb=1)(ta:ee a)(hx0:0<x)
  (h64:a.length<=1000) (hge:x<=val a):Calls Tryz.prog 204 #[.slice pa la ca,.slice pb lb cb] w (rE w (cJ (val a/x)) (cJ (val a%x))):=by
 have tb:ee [x]:=by intro h;simp;omega
 have hxd:x<4294967296:=hb.dig.head;have hc:decide (cmpL a [x]<0)=false:=by
  rw[decide_eq_false_iff_not,FY ha.dig hb.dig ta tb,xd];omega
 have CP:=Lib.hid (λw' (hx:ac w w')=>uq a [x] pa pb la ca lb cb w' (ha.ext hx) (hb.ext hx) hla hlb);have SH:=Lib.hid (λw' (hx:ac w w')=>a19 a pa la ca x w' (ha.ext hx) hla hx0 hxd h64);obtain⟨bb,ob,rfl,hbb,hcb⟩:=hb.at (by simp);have hc0:=hcb 0 (by simp);simp only[List.getElem?_cons_zero,Option.getD_some,Nat.add_zero] at hc0;have hr:val a%x<x:=Nat.mod_lt _ hx0;obtain⟨r,R⟩:∃r,Hid (val a%x=r):=⟨_,rfl⟩;rw[R.out] at hr SH ⊢;subst hla hlb;have hcb1:=hb.le;have hcb2:=hb.max;have hla:=ha.le;have hma:=ha.max;clear hcb hge ta tb;go_enter Tryz.func204,Tryz.ntmps204;go_wp2_with fail
 refine (CP.out _ ag).mono ?_;rintro e w1 ⟨rfl,hx1⟩;have hc1:w1.cell? ⟨bb,ob,none⟩=some (.int .u32 (x:Int)):=(hx1.cell (p:=⟨bb,ob,none⟩) hbb).trans hc0;go_wp2_with fail;refine (SH.out _ hx1).mono ?_;rintro e w2 ⟨p,c,rfl,hq,_,hx2⟩;have hx3:ac w w2:=ac.step hx1 hx2;go_wp2_with fail;have T:=Lib.hid (show kj [r]=cJ r by unfold kj;rw[xd]);refine (CO [r] _ _ _ _ (row_one _ _ _ _ (by omega) rfl) rfl).mono ?_;rintro e w3 ⟨rfl,hr2,hx4⟩;rw[T.out] at hr2 ⊢;have hx5:ac w w3:=ac.step (hx3.alloc hx3.size _) hx4
 have hq2:=hq.ext (Below.trans ((Below.refl w2.heap.size w2).alloc (Nat.le_refl _) _) (hx4.mono (by simp)));go_wp2;go_ret2;exact⟨p,c,_,_,rfl,hq2,hr2,hx5⟩
end
set_option maxHeartbeats 4000000
set_option maxRecDepth 100000
section
attribute [local go_sem] aL dz
theorem Lu{P:Program}{ops:Array Oper}{S:World->Prop}{Q:Act->World->Prop}{o:Oper}{l:List Oper}{a:Act}{own:List Nat}{F:World->Prop}(v:Nat)(hk:av o=2)(hw:Region.wanted o (yielded ops a.tmps)=true)
  (hg:∀w,F w->aL P o a w (λu w'=>∃d p c,u=.slice p (List.length d) c/\Row w' p c d/\ac w w'/\val d=v))
  (h:∀d p c,val d=v->aG P ops S Q l (a.put o.dst (.slice p d.length c)) own (λw=>F w/\Row w p c d)):aG P ops S Q (o::l) a own F:=by
 refine Lr (I:=List Nat×Option Addr×Nat) (λt=>.slice t.2.1 t.1.length t.2.2) (λt w=>val t.1=v/\Row w t.2.1 t.2.2 t.1) (λt w w' h hb=>⟨h.1,h.2.ext hb⟩) hk hw (λw hf=>?_) ?_
 ·refine (hg w hf).imp ?_;rintro u w' ⟨d,p,c,rfl,hr,hx,hv⟩;exact⟨(d,p,c),rfl,hx,hv,hr⟩
 ·rintro ⟨d, p, c⟩ ⟨w, hf, hv, hr⟩;have e:(λw=>F w/\val d=v/\Row w p c d)=(λw=>F w/\Row w p c d):=by
   funext w;exact propext ⟨λ⟨a,_,b⟩=>⟨a,b⟩,λ⟨a,b⟩=>⟨a,hv,b⟩⟩
  have:=h d p c hv;rw[<- e] at this;exact this
theorem ZN(r:Int):Instr.fill (λi=>some (i*1,1)) ((Array.range (1*1)).map ((.int .u32 0:Value).cells[·%(.int .u32 0:Value).cells.size]!)) [(0,.int .u32 r)]=some #[.int .u32 r]:=by kernel_rfl
theorem U7{ops:Array Oper}{S:World->Prop}{Q:Act->World->Prop}{o:Oper}{l:List Oper}{a:Act}{own:List Nat}{F:World->Prop}(x:Operand)(r:Nat)(hr:r<4294967296)
  (ho:o.op=.buildSlice 81 1 #[(0,x)]) (hk:av o=1) (hw:Region.wanted o (yielded ops a.tmps)=true) (hx:a.eval x=.int .u32 (r:Int))
  (h:∀g,aG Tryz.prog ops S Q l (a.put o.dst (.slice (some ⟨g,0,none⟩) 1 1)) own (λw=>F w/\Row w (some ⟨g,0,none⟩) 1 [r])):aG Tryz.prog ops S Q (o::l) a own F:=by
 obtain⟨i,hi,hz0,hz1,hz2⟩:=info_parts rY;refine U4 1 (.cells #[.int .u32 (r:Int)] 186) (λg w=>Row w (some ⟨g,0,none⟩) 1 [r]) hk hw (λg=>by simp[gq,ho]) (λw _=>?_) (λg w _ hb=>?_) h
 ·unfold execOp;simp only[ho,Sem.run_bind];rw[run_buildSlice w 81 186 1 _ i _ (by kernel_rfl) hi hz0 (by rw[hz1];omega) (by rw[hz1];omega) (cells:=#[.int .u32 (r:Int)]) (by rw[hz1];simp only[List.map_toArray,List.map_cons,List.map_nil,hx];exact ZN _)];rfl
 ·refine ⟨by simp, by omega, ao.cons hr ao.nil, λ_ => ⟨g, 0, rfl, (Array.getElem?_eq_some_iff.1 hb).1, λi hi => ?_⟩⟩;simp only[List.length_cons,List.length_nil] at hi;obtain rfl:i=0:=by omega
  simp[World.cell?,hb]
def iz(a b:Nm):Nm×Nm×Bool:=if a.right&&b.right&&!b.neg&&decide (0<b.d.length) then (ai (a.z/(val b.d:Int)),ai (a.z%(val b.d:Int)),true) else (zero,zero,false)
def tl(w:World)(r:Nm×Nm×Bool)(e:Ending)(w':World):Prop :=
 ∃n p l c n2 p2 l2 c2,e=.returned (.tuple #[.agg #[.bool n,.slice p l c],.agg #[.bool n2,.slice p2 l2 c2],.bool r.2.2])/\NR w' n p l c r.1/\NR w' n2 p2 l2 c2 r.2.1/\New w p/\New w p2/\ac w w'
theorem YK{a b:Nm}(h:a.right=false\/b.right=false\/b.neg=true\/b.d.length=0):iz a b=(zero,zero,false):=by
 unfold iz;rw[if_neg];rcases h with h|h|h|h<;>simp[h]
theorem Gk{a b:Nm}(ha:a.right=true)(hb:b.right=true)(hn:b.neg=false)(h0:0<b.d.length):iz a b=(ai (a.z/(val b.d:Int)),ai (a.z%(val b.d:Int)),true):=by
 unfold iz;rw[if_pos];simp[ha,hb,hn,h0]
theorem He{z:Int}(h:small z=true):fit z=(ai z,true):=by unfold fit;rw[if_pos h]
theorem wU{a:Nm}(hd:ao a.d)(h:a.right=true){z:Int}(hz:z.natAbs<=val a.d):small z=true:=by
 have h1:=a6i hd h;unfold small at *;simp only[decide_eq_true_eq] at *;have h4:a.z.natAbs=val a.d:=by unfold Nm.z;split<;>omega
 omega
theorem BK{m n:Nat}(hn:0<n):(m%n=0->(-(m:Int))/(n:Int) = -((m/n:Nat):Int)/\(-(m:Int))%(n:Int)=((m%n:Nat):Int)) /\
  (m%n≠0->(-(m:Int))/(n:Int) = -((m/n+1:Nat):Int)/\(-(m:Int))%(n:Int)=((n-m%n:Nat):Int)):=by
 have e:=Nat.div_add_mod m n;have hr:=Nat.mod_lt m hn;constructor
 ·intro h;rw[h] at e ⊢;refine (Int.ediv_emod_unique (by omega)).2 ⟨?_,by omega,by omega⟩;rw[Int.mul_neg];have:((n*(m/n):Nat):Int)=(m:Int):=by omega
  rw[Int.natCast_mul] at this;omega
 ·intro h;refine (Int.ediv_emod_unique (by omega)).2 ⟨?_,by omega,by omega⟩;have:((n*(m/n+1):Nat):Int)=(m:Int)-((m%n:Nat):Int)+(n:Int):=by rw[Nat.mul_add];omega
  rw[Int.natCast_mul] at this;rw[Int.mul_neg,this];omega
theorem Oj{m n:Nat}:((m:Nat):Int)/(n:Int)=((m/n:Nat):Int)/\((m:Nat):Int)%(n:Int)=((m%n:Nat):Int):=⟨rfl,rfl⟩
theorem Ir{a:Nm}(hd:ao a.d)(h:a.right=true){n:Nat}(hn:n<=val a.d){o:List Nat}(ho:val o=n)(neg:Bool):gY neg o=(ai (if neg then -(n:Int) else n),true):=by
 rw[sw,ho,He];exact wU hd h (by split<;>omega)
theorem a6u{m n:Nat}(hn:0<n)(h:m%n≠0):m/n+1<=m:=by
 have e:=Nat.div_add_mod m n;have h2:m/n<=n*(m/n):=Nat.le_mul_of_pos_left _ hn;omega
theorem As(a b:Nm)(na nb:Bool)(pa pb:Option Addr)(la ca lb cb:Nat)(w:World)(ha:NR w na pa la ca a)(hb:NR w nb pb lb cb b)
  (hno:a.right=false\/b.right=false\/b.neg=true\/b.d.length=0):Calls Tryz.prog 141 #[.agg #[.bool na,.slice pa la ca],.agg #[.bool nb,.slice pb lb cb]] w (tl w (iz a b)):=by
 have RA:=Lib.hid (λw' (hx:ac w w')=>c9 a na pa la ca w' (ha.ext hx));have RB:=Lib.hid (λw' (hx:ac w w')=>c9 b nb pb lb cb w' (hb.ext hx));have NO:∀W',ac w W'->tl w (iz a b) (.returned (.tuple #[.agg #[.bool false,.slice none 0 0],.agg #[.bool false,.slice none 0 0],.bool false])) W':=by
  intro W' hx;rw[YK hno];exact⟨false,none,0,0,false,none,0,0,rfl,⟨rfl,rfl,Row.nil _⟩,⟨rfl,rfl,Row.nil _⟩,New.none _,New.none _,hx⟩
 replace NO:=Lib.hid NO;have hnb:=hb.1;have hlb:=hb.2.1;rw[hnb] at RB ⊢;rw[hlb] at RB ⊢;have HNO:=Lib.hid hno;clear hnb hlb hno ha hb;cases ra:a.right with|false =>
  rw[ra] at RA;go_enter Tryz.func141,Tryz.ntmps141;go_wp2_with fail;refine (RA.out _ ag).mono ?_;rintro e w1 ⟨rfl,hx⟩;have hx0:ac w w1:=ac.step ag hx;obtain⟨_,⟨_,_,_⟩,⟨_,_,_⟩,⟨_,_,_⟩,_,_,_⟩:=jl hx w.heap.size;go_wp2;refine bodyPost_ret (v:=.tuple #[.agg #[.bool false,.slice none 0 0],.agg #[.bool false,.slice none 0 0],.bool false]) (by simp only[results,Tryz.results141];go_simp) rfl ?_;exact NO.out _ ag|true =>
  rw[ra] at RA;cases rb:b.right with|false =>
   rw[rb] at RB;go_enter Tryz.func141,Tryz.ntmps141;go_wp2_with fail;refine (RA.out _ ag).mono ?_;rintro e w1 ⟨rfl,hx⟩;have hx0:ac w w1:=ac.step ag hx;obtain⟨_,⟨_,_,_⟩,⟨_,_,_⟩,⟨_,_,_⟩,_,_,_⟩:=jl hx w.heap.size;go_wp2_with fail;refine (RB.out _ ag).mono ?_;rintro e w2 ⟨rfl,hx2⟩;have hx1:ac w w2:=ac.step ag hx2;obtain⟨_,⟨_,_,_⟩,⟨_,_,_⟩,⟨_,_,_⟩,_,_,_⟩:=jl hx2 w.heap.size;go_wp2;refine bodyPost_ret (v:=.tuple #[.agg #[.bool false,.slice none 0 0],.agg #[.bool false,.slice none 0 0],.bool false]) (by simp only[results,Tryz.results141];go_simp) rfl ?_;exact NO.out _ ag|true =>
   rw[rb] at RB;obtain⟨bn,BN⟩:∃x,Hid (b.neg=x):=⟨_,rfl⟩;obtain⟨bl,BL⟩:∃x,Hid (b.d.length=x):=⟨_,rfl⟩;have H3:bn=true\/bl=0:=by
    rcases HNO.out with h|h|h|h
    ·rw[ra] at h;cases h
    ·rw[rb] at h;cases h
    ·exact .inl (BN.out.symm.trans h)
    ·exact .inr (BL.out.symm.trans h)
   rw[BN.out,BL.out] at RB ⊢;clear ra rb;cases bn
   ·obtain rfl : bl = 0 := by rcases H3 with h | h; (cases h); exact h
    clear H3;go_enter Tryz.func141,Tryz.ntmps141;go_wp2_with fail;refine (RA.out _ ag).mono ?_;rintro e w1 ⟨rfl,hx⟩;have hx0:ac w w1:=ac.step ag hx;obtain⟨_,⟨_,_,_⟩,⟨_,_,_⟩,⟨_,_,_⟩,_,_,_⟩:=jl hx w.heap.size;go_wp2_with fail;refine (RB.out _ ag).mono ?_;rintro e w2 ⟨rfl,hx2⟩;have hx1:ac w w2:=ac.step ag hx2;obtain⟨_,⟨_,_,_⟩,⟨_,_,_⟩,⟨_,_,_⟩,_,_,_⟩:=jl hx2 w.heap.size;go_wp2;refine bodyPost_ret (v:=.tuple #[.agg #[.bool false,.slice none 0 0],.agg #[.bool false,.slice none 0 0],.bool false]) (by simp only[results,Tryz.results141];go_simp) rfl ?_;exact NO.out _ ag
   ·clear H3;go_enter Tryz.func141,Tryz.ntmps141;go_wp2_with fail;refine (RA.out _ ag).mono ?_;rintro e w1 ⟨rfl,hx⟩;have hx0:ac w w1:=ac.step ag hx;obtain⟨_,⟨_,_,_⟩,⟨_,_,_⟩,⟨_,_,_⟩,_,_,_⟩:=jl hx w.heap.size;go_wp2_with fail;refine (RB.out _ ag).mono ?_;rintro e w2 ⟨rfl,hx2⟩;have hx1:ac w w2:=ac.step ag hx2;obtain⟨_,⟨_,_,_⟩,⟨_,_,_⟩,⟨_,_,_⟩,_,_,_⟩:=jl hx2 w.heap.size;go_wp2;refine bodyPost_ret (v:=.tuple #[.agg #[.bool false,.slice none 0 0],.agg #[.bool false,.slice none 0 0],.bool false]) (by simp only[results,Tryz.results141];go_simp) rfl ?_;exact NO.out _ ag
theorem NR.drew{w:World}{n:Bool}{p:Option Addr}{l c:Nat}{x:Nm}(h:NR w n p l c x):NR w.drew n p l c x:=h.ext (Below.drew (Below.refl _ _))
theorem UN{P:Program}{c:Code}{Q:Exit->Act->World->Prop}{a:Act}{w':World}(R:World->Prop)(h:R w')(k:∀W,R W->Code.wp P c Q a W):Code.wp P c Q a w':=k _ h
theorem U3(a b:Nm)(na:Bool)(pa pb:Option Addr)(la ca lb cb:Nat)(w:World)(ha:NR w na pa la ca a)(hb:NR w false pb lb cb b)(ra:a.right=true)(rb:b.right=true)(hlb:0<lb)(dq dr:List Nat)(X Y:Nm)
  (DV:∀W,ac w W->Calls Tryz.prog 204 #[.slice pa la ca,.slice pb lb cb] W (rE W dq dr)) (hs:na=true->dr=[]) (hX:gY na dq=(X,true)) (hY:gY false dr=(Y,true)) :
  Calls Tryz.prog 141 #[.agg #[.bool na,.slice pa la ca],.agg #[.bool false,.slice pb lb cb]] w (tl w (X,Y,true)):=by
 have RA:=Lib.hid (λw' (hx:ac w w')=>c9 a na pa la ca w' (ha.ext hx))
 have RB:=Lib.hid (λw' (hx:ac w w')=>c9 b false pb lb cb w' (hb.ext hx))
 rw[ra] at RA
 rw[rb] at RB
 have e0:((lb:Int)==0)=false:=by rw[beq_eq_false_iff_ne];omega
 replace DV:=Lib.hid DV
 clear hlb ra rb
 have MK1:=Lib.hid (λp c W (h:Row W p c dq)=>by have:=nN na dq p dq.length c W h rfl;rw[hX] at this;exact this)
 have MK2:=Lib.hid (λp c W (h:Row W p c dr)=>by have:=nN false dr p dr.length c W h rfl;rw[hY] at this;exact this)
 have HS:=Lib.hid hs
 clear hs hX hY
 go_enter Tryz.func141,Tryz.ntmps141
 go_wp2_with fail
 refine (RA.out _ ag).mono ?_
 rintro e w1 ⟨rfl,hx⟩
 have hx0:ac w w1:=ac.step ag hx
 obtain⟨_,⟨_,_,_⟩,⟨_,_,_⟩,⟨_,_,_⟩,_,_,_⟩:=jl hx w.heap.size
 go_wp2_with fail
 refine (RB.out _ ag).mono ?_
 rintro e w2 ⟨rfl,hx2⟩
 have hx1:ac w w2:=ac.step ag hx2
 obtain⟨_,⟨_,_,_⟩,⟨_,_,_⟩,⟨_,_,_⟩,_,_,_⟩:=jl hx2 w.heap.size
 go_wp2_with fail
 refine (DV.out _ ag).mono ?_
 rintro e w3 ⟨p,c,p2,c2,rfl,hq,hr,hx3⟩
 have hx4:ac w w3:=ac.step ag hx3
 obtain⟨hz_w3,⟨_,_,_⟩,⟨_,_,_⟩,⟨_,_,_⟩,_,_,_⟩:=jl hx3 w.heap.size
 cases na
 all_goals
  try obtain rfl:dr=[]:=HS.out rfl
  go_wp2_with fail
  refine (MK1.out _ _ _ (hq.ext ag)).mono ?_
  rintro e w5 ⟨n5,p5,l5,c5,rfl,hn5,hnew5,hx5⟩
  have hx6:ac w w5:=ac.step ag hx5
  obtain⟨_,⟨_,_,_⟩,⟨_,_,_⟩,⟨_,_,_⟩,_,_,_⟩:=jl hx5 w.heap.size
  go_wp2_with fail
  refine (MK2.out _ _ _ (hr.ext (hx5.alloc hx5.size _))).mono ?_
  rintro e w6 ⟨n6,p6,l6,c6,rfl,hn6,hnew6,hx7⟩
  have hx8:ac w w6:=ac.step ag hx7
  have k5a:w6.cell? ⟨w5.heap.size,0,none⟩=some (.bool n5):=(hx7.cell (p:=⟨w5.heap.size,0,none⟩) (by simp)).trans (by go_simp)
  have k5b:w6.cell? ⟨w5.heap.size,1,none⟩=some (.slice p5 l5 c5):=(hx7.cell (p:=⟨w5.heap.size,1,none⟩) (by simp)).trans (by go_simp)
  have k5l:w5.heap.size<w6.heap.size:=Nat.lt_of_lt_of_le (by simp) hx7.size
  obtain⟨_,⟨_,_,_⟩,⟨_,_,_⟩,⟨_,_,_⟩,_,_,_⟩:=jl hx7 w.heap.size
  have hn5':NR w6 n5 p5 l5 c5 X:=hn5.ext (Below.trans ((Below.refl _ _).alloc (Nat.le_refl _) _) (hx7.mono (by simp)))
  have hnw5:New w3 p5:=hnew5.mono (Nat.le_refl w3.heap.size)
  have hnw6:New w3 p6:=hnew6.mono (by have:=hx5.size;have:=(Nat.le_refl w3.heap.size);simp;omega)
  have z3:w.heap.size+4<=w3.heap.size:=hz_w3
  go_upto_region 10 with (fail)
  refine UN (λW=>ac w W/\(W.cell? ⟨w.heap.size+1+1,0,none⟩=some (.bool false)/\W.cell? ⟨w.heap.size+1+1,1,none⟩=some (.slice none 0 0)/\W.cell? ⟨w.heap.size+1+1+1,0,none⟩=some (.bool false)/\W.cell? ⟨w.heap.size+1+1+1,1,none⟩=some (.slice none 0 0)/\W.cell? ⟨w5.heap.size,0,none⟩=some (.bool n5)/\W.cell? ⟨w5.heap.size,1,none⟩=some (.slice p5 l5 c5)/\W.cell? ⟨w6.heap.size,0,none⟩=some (.bool n6)/\W.cell? ⟨w6.heap.size,1,none⟩=some (.slice p6 l6 c6)/\(∀o,W.frozen? ⟨w.heap.size+1+1,o,none⟩=false)/\(∀o,W.frozen? ⟨w.heap.size+1+1+1,o,none⟩=false) )/\w.heap.size+4<=W.heap.size/\NR W n5 p5 l5 c5 X/\NR W n6 p6 l6 c6 Y) ?_ ?_
  ·exact⟨ag,⟨by go_simp,by go_simp,by go_simp,by go_simp,by go_simp,by go_simp,by go_simp,by go_simp,by intro o;go_simp,by intro o;go_simp⟩,by simp;omega,hn5'.alloc _,hn6.alloc _⟩
  obtain⟨A5,HA5⟩:∃x,Hid (w5.heap.size=x):=⟨_,rfl⟩
  obtain⟨A6,HA6⟩:∃x,Hid (w6.heap.size=x):=⟨_,rfl⟩
  have hne1:w.heap.size+1+1≠A5:=by have:=HA5.out;have:=hx5.size;have:=(Nat.le_refl w3.heap.size);omega
  have hne2:w.heap.size+1+1+1≠A5:=by have:=HA5.out;have:=hx5.size;have:=(Nat.le_refl w3.heap.size);omega
  have hne3:w.heap.size+1+1≠A6:=by have:=HA5.out;have:=HA6.out;omega
  have hne4:w.heap.size+1+1+1≠A6:=by have:=HA5.out;have:=HA6.out;omega
  rw[HA5.out,HA6.out]
  rintro V ⟨hxV,⟨v0,v1,v2,v3,v4,v5,v6,v7,vf1,vf2⟩,hzV,hN5,hN6⟩
  have HN5:=Lib.hid hN5
  have HN6:=Lib.hid hN6
  have HXV:=Lib.hid hxV
  have y2:w.heap.size+1+1<V.heap.size:=by omega
  have y3:w.heap.size+1+1+1<V.heap.size:=by omega
  have Z3:=Lib.hid z3
  have NW5:=Lib.hid hnw5
  have NW6:=Lib.hid hnw6
  clear hN5 hN6 hxV k5a k5b k5l hn5' hn6 hn5 hx8 hx6 hx4 hx7 hx5 hx3 hx0 hx1 hx2 hx hzV z3 hnew5 hnew6 hnw5 hnw6 hq hr
  go_region
  all_goals
   go_wp2
   refine bodyPost_ret (v:=.tuple #[.agg #[.bool n5,.slice p5 l5 c5],.agg #[.bool n6,.slice p6 l6 c6],.bool true]) (by simp only[results,Tryz.results141];go_simp) rfl ?_
   have hN5:=HN5.out
   have hN6:=HN6.out
   have hxV:=HXV.out
   have hnw5:=NW5.out
   have hnw6:=NW6.out
   have z3:=Z3.out
   refine⟨n5,p5,l5,c5,n6,p6,l6,c6,rfl,?_,?_,hnw5.mono (by omega),hnw6.mono (by omega),ag⟩
   ·(repeat (first|assumption|exact NR.drew (by assumption)|refine NR.set ?_ (w0:=w3) (by assumption) _ CV _|refine NR.drew ?_))
   ·(repeat (first|assumption|exact NR.drew (by assumption)|refine NR.set ?_ (w0:=w3) (by assumption) _ CV _|refine NR.drew ?_))
end
set_option maxHeartbeats 4000000
set_option maxRecDepth 100000
section
attribute [local go_sem] aL dz
theorem U0(a b:Nm)(pa pb:Option Addr)(la ca lb cb:Nat)(w:World)(ha:NR w true pa la ca a)(hb:NR w false pb lb cb b)(ra:a.right=true)(rb:b.right=true)(hlb:0<lb)(dq dr:List Nat)(X Y:Nm)
  (DV:∀W,ac w W->Calls Tryz.prog 204 #[.slice pa la ca,.slice pb lb cb] W (rE W dq dr)) (hs:0<dr.length) (hX:∀o:List Nat,val o=val dq+1->gY true o=(X,true)) (hY:∀o:List Nat,val o=val b.d-val dr->gY false o=(Y,true))
  (lq:dq.length<=64) (lr:dr.length<=64) (hle:val dr<=val b.d) :
  Calls Tryz.prog 141 #[.agg #[.bool true,.slice pa la ca],.agg #[.bool false,.slice pb lb cb]] w (tl w (X,Y,true)):=by
 have lb64:b.d.length<=64:=(b.right_iff.1 rb).1
 have PL:=Lib.hid (λp c g W (h:Row W p c dq) (k:Row W (some ⟨g,0,none⟩) 1 [1])=>Qz dq [1] p (some ⟨g,0,none⟩) dq.length c 1 1 W h k rfl rfl (by omega) (by simp))
 have MN:=Lib.hid (λp c W (k:ac w W) (h:Row W p c dr)=>IJ b.d dr pb p lb cb dr.length c W (hb.2.2.ext k) h hb.2.1 rfl (by omega) (by omega) hle)
 have RA:=Lib.hid (λw' (hx:ac w w')=>c9 a true pa la ca w' (ha.ext hx))
 have RB:=Lib.hid (λw' (hx:ac w w')=>c9 b false pb lb cb w' (hb.ext hx))
 rw[ra] at RA
 rw[rb] at RB
 have e0:((lb:Int)==0)=false:=by rw[beq_eq_false_iff_ne];omega
 replace DV:=Lib.hid DV
 clear hlb ra rb
 have MK1:=Lib.hid (λo p c W (h:Row W p c o) (hv:val o=val dq+val [1])=>by have:=nN true o p o.length c W h rfl;rw[hX o (by rw[hv,xd])] at this;exact this)
 have MK2:=Lib.hid (λo p c W (h:Row W p c o) (hv:val o=val b.d-val dr)=>by have:=nN false o p o.length c W h rfl;rw[hY o hv] at this;exact this)
 clear hX hY lq lr hle lb64
 go_enter Tryz.func141,Tryz.ntmps141
 go_wp2_with fail
 refine (RA.out _ ag).mono ?_
 rintro e w1 ⟨rfl,hx⟩
 have hx0:ac w w1:=ac.step ag hx
 obtain⟨_,⟨_,_,_⟩,⟨_,_,_⟩,⟨_,_,_⟩,_,_,_⟩:=jl hx w.heap.size
 go_wp2_with fail
 refine (RB.out _ ag).mono ?_
 rintro e w2 ⟨rfl,hx2⟩
 have hx1:ac w w2:=ac.step ag hx2
 obtain⟨_,⟨_,_,_⟩,⟨_,_,_⟩,⟨_,_,_⟩,_,_,_⟩:=jl hx2 w.heap.size
 go_wp2_with fail
 refine (DV.out _ ag).mono ?_
 rintro e w3 ⟨p,c,p2,c2,rfl,hq,hr,hx3⟩
 have hx4:ac w w3:=ac.step ag hx3
 obtain⟨hz_w3,⟨_,_,_⟩,⟨_,_,_⟩,⟨_,_,_⟩,_,_,_⟩:=jl hx3 w.heap.size
 obtain⟨m,HM⟩:∃m,Hid (dr.length=m):=⟨_,rfl⟩
 obtain⟨mq,HMQ⟩:∃m,Hid (dq.length=m):=⟨_,rfl⟩
 rw[HM.out] at hs ⊢
 rw[HMQ.out]
 rw[HM.out] at MN
 rw[HMQ.out] at PL
 go_upto_region 5 with (fail)
 refine uT (λW=>W.cell? ⟨w.heap.size,0,none⟩=some (.bool true)/\W.cell? ⟨w.heap.size,1,none⟩=some (.slice pa la ca)/\W.cell? ⟨w.heap.size+1,0,none⟩=some (.bool false)/\W.cell? ⟨w.heap.size+1,1,none⟩=some (.slice pb lb cb)/\W.cell? ⟨w.heap.size+1+1,0,none⟩=some (.bool false)/\W.cell? ⟨w.heap.size+1+1,1,none⟩=some (.slice none 0 0)/\W.cell? ⟨w.heap.size+1+1+1,0,none⟩=some (.bool false)/\W.cell? ⟨w.heap.size+1+1+1,1,none⟩=some (.slice none 0 0)) ?_
 repeat (first|refine gQ ?_|refine gP ?_)
 refine U7 _ 1 (by omega) (by rfl) (by rfl) (by rfl) (by rfl) ?_
 intro g
 refine rj ?_
 repeat (first|refine gQ ?_|refine gP ?_)
 refine Lu (val dq+val [1]) (by rfl) (by rfl) (by intro W hW;(try dsimp only at hW);go_simp;exact (PL.out _ _ _ _ (hq.ext hW.1.1) hW.2).mono (by rintro e w' ⟨o,p',c',rfl,hr',_,hx',hv'⟩;exact⟨_,rfl,o,p',c',rfl,hr',hx',hv'⟩)) ?_
 intro d1 q1 k1 hv1
 refine rj ?_
 repeat (first|refine gQ ?_|refine gP ?_)
 refine Lu (val b.d-val dr) (by rfl) (by rfl) (by intro W hW;(try dsimp only at hW);go_simp;exact (MN.out _ _ _ (hx4.trans (hW.1.1.1.mono hx4.size)) (hr.ext hW.1.1.1)).mono (by rintro e w' ⟨o,p',c',rfl,hr',_,hx',hv'⟩;exact⟨_,rfl,o,p',c',rfl,hr',hx',hv'⟩)) ?_
 intro d2 q2 k2 hv2
 refine rj ?_
 repeat (first|refine gQ ?_|refine gP ?_)
 rintro w4 ⟨⟨⟨⟨hx9,hc9⟩,_⟩,hr1⟩,hr2⟩
 have hx10:ac w w4:=ac.step hx4 hx9
 have R1:=Lib.hid hr1
 have R2:=Lib.hid hr2
 clear hc9 hr1 hr2 hq hr
 obtain⟨_,⟨_,_,_⟩,⟨_,_,_⟩,⟨_,_,_⟩,_,_,_⟩:=jl hx9 w.heap.size
 go_wp2_with fail
 refine (MK1.out d1 _ _ _ R1.out hv1).mono ?_
 rintro e w5 ⟨n5,p5,l5,c5,rfl,hn5,hnew5,hx5⟩
 have hx6:ac w w5:=ac.step hx10 hx5
 obtain⟨_,⟨_,_,_⟩,⟨_,_,_⟩,⟨_,_,_⟩,_,_,_⟩:=jl hx5 w.heap.size
 go_wp2_with fail
 refine (MK2.out d2 _ _ _ (R2.out.ext (hx5.alloc hx5.size _)) hv2).mono ?_
 rintro e w6 ⟨n6,p6,l6,c6,rfl,hn6,hnew6,hx7⟩
 have hx8:ac w w6:=ac.step ag hx7
 have k5a:w6.cell? ⟨w5.heap.size,0,none⟩=some (.bool n5):=(hx7.cell (p:=⟨w5.heap.size,0,none⟩) (by simp)).trans (by go_simp)
 have k5b:w6.cell? ⟨w5.heap.size,1,none⟩=some (.slice p5 l5 c5):=(hx7.cell (p:=⟨w5.heap.size,1,none⟩) (by simp)).trans (by go_simp)
 have k5l:w5.heap.size<w6.heap.size:=Nat.lt_of_lt_of_le (by simp) hx7.size
 obtain⟨_,⟨_,_,_⟩,⟨_,_,_⟩,⟨_,_,_⟩,_,_,_⟩:=jl hx7 w.heap.size
 have hn5':NR w6 n5 p5 l5 c5 X:=hn5.ext (Below.trans ((Below.refl _ _).alloc (Nat.le_refl _) _) (hx7.mono (by simp)))
 have hnw5:New w3 p5:=hnew5.mono hx9.size
 have hnw6:New w3 p6:=hnew6.mono (by have:=hx5.size;have:=hx9.size;simp;omega)
 have z3:w.heap.size+4<=w3.heap.size:=hz_w3
 go_upto_region 10 with (fail)
 refine UN (λW=>ac w W/\(W.cell? ⟨w.heap.size+1+1,0,none⟩=some (.bool false)/\W.cell? ⟨w.heap.size+1+1,1,none⟩=some (.slice none 0 0)/\W.cell? ⟨w.heap.size+1+1+1,0,none⟩=some (.bool false)/\W.cell? ⟨w.heap.size+1+1+1,1,none⟩=some (.slice none 0 0)/\W.cell? ⟨w5.heap.size,0,none⟩=some (.bool n5)/\W.cell? ⟨w5.heap.size,1,none⟩=some (.slice p5 l5 c5)/\W.cell? ⟨w6.heap.size,0,none⟩=some (.bool n6)/\W.cell? ⟨w6.heap.size,1,none⟩=some (.slice p6 l6 c6)/\(∀o,W.frozen? ⟨w.heap.size+1+1,o,none⟩=false)/\(∀o,W.frozen? ⟨w.heap.size+1+1+1,o,none⟩=false) )/\w.heap.size+4<=W.heap.size/\NR W n5 p5 l5 c5 X/\NR W n6 p6 l6 c6 Y) ?_ ?_
 ·exact⟨ag,⟨by go_simp,by go_simp,by go_simp,by go_simp,by go_simp,by go_simp,by go_simp,by go_simp,by intro o;go_simp,by intro o;go_simp⟩,by simp;omega,hn5'.alloc _,hn6.alloc _⟩
 obtain⟨A5,HA5⟩:∃x,Hid (w5.heap.size=x):=⟨_,rfl⟩
 obtain⟨A6,HA6⟩:∃x,Hid (w6.heap.size=x):=⟨_,rfl⟩
 have hne1:w.heap.size+1+1≠A5:=by have:=HA5.out;have:=hx5.size;have:=hx9.size;omega
 have hne2:w.heap.size+1+1+1≠A5:=by have:=HA5.out;have:=hx5.size;have:=hx9.size;omega
 have hne3:w.heap.size+1+1≠A6:=by have:=HA5.out;have:=HA6.out;omega
 have hne4:w.heap.size+1+1+1≠A6:=by have:=HA5.out;have:=HA6.out;omega
 rw[HA5.out,HA6.out]
 rintro V ⟨hxV,⟨v0,v1,v2,v3,v4,v5,v6,v7,vf1,vf2⟩,hzV,hN5,hN6⟩
 have HN5:=Lib.hid hN5
 have HN6:=Lib.hid hN6
 have HXV:=Lib.hid hxV
 have y2:w.heap.size+1+1<V.heap.size:=by omega
 have y3:w.heap.size+1+1+1<V.heap.size:=by omega
 have Z3:=Lib.hid z3
 have NW5:=Lib.hid hnw5
 have NW6:=Lib.hid hnw6
 clear hN5 hN6 hxV k5a k5b k5l hn5' hn6 hn5 hx8 hx6 hx4 hx7 hx5 hx3 hx0 hx1 hx2 hx hzV z3 hnew5 hnew6 hnw5 hnw6 hx9 hx10
 go_region
 all_goals
  go_wp2
  refine bodyPost_ret (v:=.tuple #[.agg #[.bool n5,.slice p5 l5 c5],.agg #[.bool n6,.slice p6 l6 c6],.bool true]) (by simp only[results,Tryz.results141];go_simp) rfl ?_
  have hN5:=HN5.out
  have hN6:=HN6.out
  have hxV:=HXV.out
  have hnw5:=NW5.out
  have hnw6:=NW6.out
  have z3:=Z3.out
  refine⟨n5,p5,l5,c5,n6,p6,l6,c6,rfl,?_,?_,hnw5.mono (by omega),hnw6.mono (by omega),ag⟩
  ·(repeat (first|assumption|exact NR.drew (by assumption)|refine NR.set ?_ (w0:=w3) (by assumption) _ CV _|refine NR.drew ?_))
  ·(repeat (first|assumption|exact NR.drew (by assumption)|refine NR.set ?_ (w0:=w3) (by assumption) _ CV _|refine NR.drew ?_))
end
theorem a1X(a b:Nm)(na nb:Bool)(pa pb:Option Addr)(la ca lb cb:Nat)(w:World)(ha:NR w na pa la ca a)(hb:NR w nb pb lb cb b)
  (DV:a.right=true->b.right=true->0<b.d.length->∀W,ac w W->Calls Tryz.prog 204 #[.slice pa la ca,.slice pb lb cb] W (rE W (cJ (val a.d/val b.d)) (cJ (val a.d%val b.d)))) :
  Calls Tryz.prog 141 #[.agg #[.bool na,.slice pa la ca],.agg #[.bool nb,.slice pb lb cb]] w (tl w (iz a b)):=by
 cases ra:a.right with|false=>exact As a b na nb pa pb la ca lb cb w ha hb (.inl ra)|true =>
  cases rb:b.right with|false=>exact As a b na nb pa pb la ca lb cb w ha hb (.inr (.inl rb))|true =>
   cases hn:b.neg with|true=>exact As a b na nb pa pb la ca lb cb w ha hb (.inr (.inr (.inl hn)))|false =>
    by_cases h0:b.d.length=0
    ·exact As a b na nb pa pb la ca lb cb w ha hb (.inr (.inr (.inr h0)))
    ·have hnb := hb.1;rw[hn] at hnb;subst hnb;have hlb:=hb.2.1;have hna:=ha.1;have da:=ha.2.2.dig;rw[Gk ra rb hn (by omega)];have D:=DV ra rb (by omega);have vq:val (cJ (val a.d/val b.d))=val a.d/val b.d:=xc _;have vr:val (cJ (val a.d%val b.d))=val a.d%val b.d:=xc _;have hbp:0<val b.d:=KF (b.right_iff.1 rb).2.1 (by omega);have hqle:val a.d/val b.d<=val a.d:=Nat.div_le_self _ _;have hrle:val a.d%val b.d<=val a.d:=Nat.mod_le _ _;have l64 (n:Nat) (h:n<=val a.d):(cJ n).length<=64:=by
      refine (tG _ _).2 (Nat.lt_of_le_of_lt h ?_);exact Nat.lt_of_lt_of_le (ip da) (Nat.pow_le_pow_right (by omega) (a.right_iff.1 ra).1)
     by_cases hs:a.neg=true/\val a.d%val b.d≠0
     ·obtain ⟨hneg, hrest⟩ := hs;rw[hneg] at hna;subst hna;have hrb:val a.d%val b.d<val b.d:=Nat.mod_lt _ hbp;have z:a.z = -(val a.d:Int):=by unfold Nm.z;rw[hneg];rfl
      refine U0 a b pa pb la ca lb cb w ha hb ra rb (by omega) _ _ _ _ D ?_ ?_ ?_ (l64 _ hqle) (l64 _ hrle) (by rw[vr];omega)
      ·refine List.length_pos_iff.2 (λh => hrest ?_);exact yo.1 h
      ·intro o ho;rw[vq] at ho;have:=Ir da ra (a6u hbp hrest) ho true;simp only[if_true] at this;rw[this,z,((BK hbp).2 hrest).1]
      ·intro o ho;rw[vr] at ho;rw[sw,ho,He]
       ·simp only [Bool.false_eq_true, if_false];rw[z,((BK hbp).2 hrest).2]
       ·refine wU hb.2.2.dig rb ?_;simp only[Bool.false_eq_true,if_false];omega
     ·refine U3 a b na pa pb la ca lb cb w ha hb ra rb (by omega) _ _ _ _ D ?_ ?_ ?_
      ·intro h;rw[hna] at h;have:val a.d%val b.d=0:=by
        rcases Nat.eq_zero_or_pos (val a.d%val b.d) with g|g
        ·exact g
        ·exact absurd ⟨h,by omega⟩ hs
       rw[this,ji]
      ·rw [Ir da ra hqle vq na];unfold Nm.z;rw[hna];cases h:a.neg with|false=>simp only[Bool.false_eq_true,if_false];rw[Oj.1]|true =>
        simp only[if_true];have:val a.d%val b.d=0:=by
         rcases Nat.eq_zero_or_pos (val a.d%val b.d) with g|g
         ·exact g
         ·exact absurd ⟨h,by omega⟩ hs
        rw[((BK hbp).1 this).1]
      ·rw [Ir da ra hrle vr false];simp only[Bool.false_eq_true,if_false];unfold Nm.z;cases h:a.neg with|false=>simp only[Bool.false_eq_true,if_false];rw[Oj.2]|true =>
        simp only[if_true];have:val a.d%val b.d=0:=by
         rcases Nat.eq_zero_or_pos (val a.d%val b.d) with g|g
         ·exact g
         ·exact absurd ⟨h,by omega⟩ hs
        rw[((BK hbp).1 this).2]
theorem a14(a b:List Nat)(pa pb:Option Addr)(la ca lb cb:Nat)(w:World)(ha:Row w pa ca a)(hb:Row w pb cb b)(hla:la=a.length)(hlb:lb=b.length)(ta:ee a)(tb:ee b)(h64:a.length<=1000)(h1:b.length=1) :
  Calls Tryz.prog 204 #[.slice pa la ca,.slice pb lb cb] w (rE w (cJ (val a/val b)) (cJ (val a%val b))):=by
 by_cases hlt:val a<val b
 ·exact Qy a b pa pb la ca lb cb w ha hb hla hlb ta tb hlt
 ·obtain⟨x,rfl⟩:∃x,b=[x]:=by
   match b,h1 with|[x],_=>exact⟨x,rfl⟩
  have h0:=KF tb (by simp);rw[xd] at h0 hlt ⊢;exact a13 a x pa pb la ca lb cb w ha hb hla (by rw[hlb];rfl) ta h0 h64 (by omega)
end Go.Proofs.YtghemgdfmldoeaaGreat
