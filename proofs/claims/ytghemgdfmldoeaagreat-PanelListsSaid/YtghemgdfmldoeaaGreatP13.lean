import Derived.Test.YtghemgdfmldoeaaGreatP12
set_option linter.unusedVariables false
set_option linter.unusedSimpArgs false
namespace Go.Proofs.YtghemgdfmldoeaaGreat
open Go.RowKit
set_option maxHeartbeats 1000000
set_option maxRecDepth 100000
section
theorem grownBy_trans{w w1 w2:World}{r:Option Nat}(h:w.grownBy w1 r)(k:w1.grownBy w2 r):w.grownBy w2 r :=
 ⟨k.os.trans h.os,k.tape.trans h.tape,k.output.trans h.output,Nat.le_trans h.size k.size,
  λi hi hne=>(k.block i (Nat.lt_of_lt_of_le hi h.size) hne).trans (h.block i hi hne)⟩
theorem grownBy_setCell(w:World)(a:Addr)(v:Value):w.grownBy (w.setCell a v) (some a.block) :=
 ⟨rfl,rfl,rfl,by simp[World.setCell],λk _ hne=>Below.heap_setCell _ _ _ _ (λe=>hne (by rw[e]))⟩
theorem BG(d:List Nat)(k:Nat)(p:Option Addr)(l c:Nat)(w:World)(h:Row w p c d)(hl:l=d.length)(hk:k<=4611686018427387904) :
  Calls Tryz.prog 297 #[.slice p l c,.int .i64 (k:Int)] w λe w'=>e=.returned (.int .u64 ((d[k]?.getD 0:Nat):Int))/\w=w':=by
 subst hl;have hle:=h.le;have hm:=h.max;by_cases hlt:k<d.length
 ·obtain ⟨b, o, rfl, hb, hc⟩ := h.at (by omega);have hc1:=hc k hlt;have hx:=h.dig.getD k;rw[List.getD_eq_getElem?_getD] at hx;obtain⟨x,X⟩:∃x,Hid (d[k]?.getD 0=x):=⟨_,rfl⟩;rw[X.out] at hc1 hx ⊢;clear hc h;go_enter Tryz.func297,Tryz.ntmps297;go_wp2;go_ret;exact⟨rfl,rfl⟩
 ·have e : d[k]?.getD 0 = 0 := by rw [List.getElem?_eq_none (by omega)]; rfl
  rw[e];clear e h;go_enter Tryz.func297,Tryz.ntmps297;go_wp2;go_ret;exact⟨rfl,rfl⟩
theorem u64_neg(n:Int)(h : -18446744073709551616<=n/\n<0):IntKind.u64.wrap n=n+18446744073709551616:=by
 have e:IntKind.u64.wrap n=n%18446744073709551616:=by simp[IntKind.wrap,IntKind.signed,IntKind.bits]
 rw[e];omega
def Step(cb:Nat)(w:World)(x s:Nat)(e:Ending)(w':World):Prop :=
 e=.returned (.int .u32 (x:Int))/\w'.cell? ⟨cb,0,none⟩=some (.int .u64 (s:Int))/\w'.frozen? ⟨cb,0,none⟩=false/\w.grownBy w' (some cb)
theorem Kz{cb x s:Nat}{w:World}{v:Value}{a b:Int}(hc:w.cell? ⟨cb,0,none⟩=some v)(hf:w.frozen? ⟨cb,0,none⟩=false)(ha:a=(x:Int))(hb:b=(s:Int)) :
  Step cb w x s (.returned (.int .u32 a)) (w.setCell ⟨cb,0,none⟩ (.int .u64 b)):=by
 subst ha hb;exact⟨rfl,World.cell?_setCell_same' _ _ _ (by rw[hc];rfl),by rw[World.frozen?_setCell];exact hf,grownBy_setCell _ _ _⟩
theorem a3q(x y s cb:Nat)(w:World)(hx:x<4294967296)(hy:y<4294967296)(hs:s<=1)(hc:w.cell? ⟨cb,0,none⟩=some (.int .u64 (s:Int)))(hf:w.frozen? ⟨cb,0,none⟩=false) :
  Calls Tryz.prog 265 #[.int .u64 (x:Int),.int .u64 (y:Int),.pointer (some ⟨cb,0,none⟩)] w (Step cb w ((s+(x+y))%4294967296) ((s+(x+y))/4294967296)):=by
 go_enter Tryz.func265,Tryz.ntmps265;go_wp2;go_ret;refine⟨by simp,?_,?_,grownBy_trans (grownBy_setCell _ _ _) (grownBy_setCell _ _ _)⟩
 ·rw[World.cell?_setCell_same' _ _ _ (by rw[World.cell?_setCell_same' _ _ _ (by rw[hc];rfl)];rfl)];simp
 ·rw[World.frozen?_setCell,World.frozen?_setCell,hf]
theorem a1m(x y s cb:Nat)(w:World)(hx:x<4294967296)(hy:y<4294967296)(hs:s<=1)(hc:w.cell? ⟨cb,0,none⟩=some (.int .u64 (s:Int)))(hf:w.frozen? ⟨cb,0,none⟩=false) :
  Calls Tryz.prog 266 #[.int .u64 (x:Int),.int .u64 (y:Int),.pointer (some ⟨cb,0,none⟩)] w (Step cb w ((x+4294967296-y-s)%4294967296) (if x<y+s then 1 else 0)):=by
 by_cases h1:y+s<=x
 ·go_enter Tryz.func266, Tryz.ntmps266;go_wp2;go_ret;exact Kz hc hf (by omega) (by omega)
 ·by_cases h2 : x < y
  ·go_enter Tryz.func266, Tryz.ntmps266;go_wp2;go_ret;have e1:IntKind.u64.wrap ((x:Int)-y)=(x:Int)-y+18446744073709551616:=u64_neg _ (by omega);have e2:IntKind.u64.wrap ((x:Int)-y+18446744073709551616-s)=(x:Int)-y+18446744073709551616-s:=IntWalk.u64_in _ (by omega);exact Kz hc hf (by rw[e1,e2];omega) (by rw[e1,e2];omega)
  ·obtain rfl : x = y := by omega
   obtain rfl:s=1:=by omega
   go_enter Tryz.func266,Tryz.ntmps266;go_wp2;go_ret;have e1:IntKind.u64.wrap (-1)=18446744073709551615:=u64_neg _ (by omega);exact Kz hc hf (by rw[e1];omega) (by rw[e1];omega)
def uI(a b:List Nat)(o:List Nat)(s:Nat):Prop :=
 ao o/\s<=1/\val o+4294967296 ^ o.length*s=val (a.take o.length)+val (b.take o.length)
def ym(a b:List Nat)(o:List Nat)(s:Nat):Prop :=
 ao o/\s<=1/\val o+val (b.take o.length)=val (a.take o.length)+4294967296 ^ o.length*s
theorem Et(d:List Nat)(k:Nat):val (d.take (k+1))=val (d.take k)+4294967296 ^ k*(d[k]?.getD 0):=by
 by_cases h:k<d.length
 ·rw [List.take_succ_eq_append_getElem h, val_append, kS h];simp only[List.length_take,Nat.min_eq_left (Nat.le_of_lt h),jL,K5];simp
 ·rw [List.take_of_length_le (by omega), List.take_of_length_le (by omega), List.getElem?_eq_none (by omega)];simp
theorem UE(o:List Nat)(x:Nat):val (o++[x])=val o+4294967296 ^ o.length*x:=by rw[val_append];simp[val]
theorem Ug{a b o:List Nat}{s:Nat}(ha:ao a)(hb:ao b)(h:uI a b o s) :
  uI a b (o++[(s+(a[o.length]?.getD 0+b[o.length]?.getD 0))%4294967296]) ((s+(a[o.length]?.getD 0+b[o.length]?.getD 0))/4294967296):=by
 obtain⟨h1,h2,h3⟩:=h;have ha1:=ha.getD o.length;have hb1:=hb.getD o.length;rw[List.getD_eq_getElem?_getD] at ha1 hb1;refine⟨h1.append (ao.cons (Nat.mod_lt _ (by omega)) ao.nil),by omega,?_⟩;rw[List.length_append,List.length_singleton,UE,Et,Et];generalize a[o.length]?.getD 0=x at *;generalize b[o.length]?.getD 0=y at *;rw[Nat.pow_succ];generalize 4294967296 ^ o.length=p at *;have e:p*((s+(x+y))%4294967296)+p*4294967296*((s+(x+y))/4294967296)=p*s+(p*x+p*y):=by
  rw[Nat.mul_assoc,<- Nat.mul_add,Nat.mod_add_div,Nat.mul_add,Nat.mul_add]
 omega
theorem YE{a b o:List Nat}{s:Nat}(ha:ao a)(hb:ao b)(h:ym a b o s) :
  ym a b (o++[(a[o.length]?.getD 0+4294967296-b[o.length]?.getD 0-s)%4294967296]) (if a[o.length]?.getD 0<b[o.length]?.getD 0+s then 1 else 0):=by
 obtain⟨h1,h2,h3⟩:=h;have ha1:=ha.getD o.length;have hb1:=hb.getD o.length;rw[List.getD_eq_getElem?_getD] at ha1 hb1;refine⟨h1.append (ao.cons (Nat.mod_lt _ (by omega)) ao.nil),by split<;>omega,?_⟩;rw[List.length_append,List.length_singleton,UE,Et,Et];generalize a[o.length]?.getD 0=x at *;generalize b[o.length]?.getD 0=y at *;rw[Nat.pow_succ];generalize 4294967296 ^ o.length=p at *;have e:(x+4294967296-y-s)%4294967296+y+s=x+4294967296*(if x<y+s then 1 else 0):=by split<;>omega
 have e2:p*((x+4294967296-y-s)%4294967296)+p*y+p*s=p*x+p*4294967296*(if x<y+s then 1 else 0):=by
  rw[Nat.mul_assoc,<- Nat.mul_add,<- Nat.mul_add,<- Nat.mul_add,e]
 omega
theorem Eu(d:List Nat)(k:Nat)(h:d.length<=k):val (d.take k)=val d:=by rw[List.take_of_length_le h]
theorem a3D(b n:Nat)(h:0<n):b ^ n=b ^ (n-1)*b:=by
 obtain⟨k,rfl⟩:∃k,n=k+1:=⟨n-1,by omega⟩;rw[Nat.add_sub_cancel,Nat.pow_succ]
theorem a6v{a b o:List Nat}{s:Nat}(ha:ao a)(hb:ao b)(h:uI a b o s)(hl:max a.length b.length<o.length):val o=val a+val b:=by
 obtain⟨h1,h2,h3⟩:=h;rw[Eu a _ (by omega),Eu b _ (by omega)] at h3;have h4:=ip ha;have h5:=ip hb;have h6:(4294967296:Nat) ^ a.length<=4294967296 ^ (o.length-1):=Nat.pow_le_pow_right (by omega) (by omega);have h7:(4294967296:Nat) ^ b.length<=4294967296 ^ (o.length-1):=Nat.pow_le_pow_right (by omega) (by omega);have h8:(4294967296:Nat) ^ o.length=4294967296 ^ (o.length-1)*4294967296:=a3D _ _ (by omega);rw[h8] at h3;generalize (4294967296:Nat) ^ (o.length-1)=p at *;generalize (4294967296:Nat) ^ a.length=q at *;generalize (4294967296:Nat) ^ b.length=r at *
 have h9:p*2<=p*4294967296:=Nat.mul_le_mul_left _ (by decide);generalize p*4294967296=pp at *;rcases Nat.lt_or_ge 0 s with h0|h0
 ·have e : s = 1 := Nat.le_antisymm h2 h0;rw[e,Nat.mul_one] at h3;omega
 ·have e : s = 0 := Nat.le_antisymm h0 (Nat.zero_le _);rw[e,Nat.mul_zero] at h3;omega
theorem YD{a b o:List Nat}{s:Nat}(h:ym a b o s)(hl:a.length<=o.length)(hl2:b.length<=o.length)(hle:val b<=val a):val o=val a-val b:=by
 obtain⟨h1,h2,h3⟩:=h;rw[Eu a _ hl,Eu b _ hl2] at h3;have h4:=ip h1;generalize (4294967296:Nat) ^ o.length=p at *;rcases Nat.lt_or_ge 0 s with h0|h0
 ·obtain rfl : s = 1 := by omega
  omega
 ·obtain rfl : s = 0 := by omega
  omega
end
set_option maxHeartbeats 2000000
set_option maxRecDepth 100000
section
theorem Row.grown{w w':World}{p:Option Addr}{c cb:Nat}{d:List Nat}(h:Row w p c d)(hn:0<d.length->∀x,p=some x->x.block≠cb)(hg:w.grownBy w' (some cb)):Row w' p c d:=by
 refine⟨h.1,h.2.1,h.2.2.1,λh0=>?_⟩;obtain⟨b,o,hp,hlt,hc⟩:=h.2.2.2 h0;refine⟨b,o,hp,Nat.lt_of_lt_of_le hlt hg.size,λi hi=>?_⟩;have hb:=hn h0 _ hp;rw[<- hc i hi];exact World.cell?_of_block (hg.block b hlt (λe=>hb (by injection e)))
theorem GZ(o z:List Nat)(x:Nat):(enc (o++0::z)).set o.length (.int .u32 (x:Int))=enc (o++[x]++z):=by
 simp[enc]
theorem DY(n:Nat)(h:0<n):List.replicate n 0=0::List.replicate (n-1) 0:=by
 obtain⟨k,rfl⟩:∃k,n=k+1:=⟨n-1,by omega⟩;rfl
theorem YW(a b:List Nat)(pa pb:Option Addr)(la ca lb kb cb:Nat)(w:World)(ha:Row w pa ca a)(hb:Row w pb kb b)(hla:la=a.length)(hlb:lb=b.length)
  (hna:0<a.length->∀x,pa=some x->x.block≠cb) (hnb:0<b.length->∀x,pb=some x->x.block≠cb) (hal:a.length<=1000) (hbl:b.length<=1000)
  (hcb:cb<w.heap.size) (hc:w.cell? ⟨cb,0,none⟩=some (.int .u64 ((0:Nat):Int))) (hf:w.frozen? ⟨cb,0,none⟩=false) :
  Calls Tryz.prog 264 #[.slice pa la ca,.slice pb lb kb,.func (.func 265) #[] #[.pointer (some ⟨cb,0,none⟩)]] w λe w' =>
   ∃o c,o.length=max a.length b.length+1/\e=.returned (.slice (some ⟨w.heap.size,0,none⟩) o.length c)/\Row w' (some ⟨w.heap.size,0,none⟩) c o/\(∃s,uI a b o s)/\w.grownBy w' (some cb):=by
 subst hla hlb;obtain⟨i,hi,hz0,hz1,hz2⟩:=info_parts rY;obtain⟨N,hN⟩:∃N,N=max a.length b.length+1:=⟨_,rfl⟩;have eN:max (a.length:Int) (b.length:Int)+1=(N:Int):=by omega
 have HN:=Lib.hid hN;have hN1:a.length<N:=by omega
 have hN2:b.length<N:=by omega
 have hN3:N<=1001:=by omega
 have hN4:N<=max a.length b.length+1:=by omega
 clear hN;have hla:=ha.le;have hma:=ha.max;have hlb:=hb.le;have hmb:=hb.max;go_enter Tryz.func264,Tryz.ntmps264;go_wp2_with (at_make;refine wpList_make_full _ rfl _ _ 81 rfl w.heap.size 186 i (.int .u32 0) 1 Tryz.underlying81 hi hz0 hz1 _ _ _ _ N rfl rfl (by omega) (by omega) (by rw[hz2];omega) (by unfold maxLen;omega) (Nat.le_refl _) ?_);all_goals
  intro w1 hown hgr;rw[show (madeCells #[Value.int IntKind.u32 0] N).toList=enc ([]++List.replicate N 0) from by rw[enc,List.nil_append,List.map_replicate];exact toList_madeCells_one _ _] at hown;have hg0:w.grownBy w1 (some cb):=⟨hgr.os,hgr.tape,hgr.output,hgr.size,λk hk _=>hgr.block k hk (by simp)⟩;have hc1:w1.cell? ⟨cb,0,none⟩=some (.int .u64 ((0:Nat):Int)):=(World.cell?_of_block (hgr.block cb hcb (by simp))).trans hc;have hf1:w1.frozen? ⟨cb,0,none⟩=false:=(World.frozen?_of_block (hgr.block cb hcb (by simp))).trans hf;clear hgr hc hf;go_wp2_with fail
  go_loopw [19] (λi wr=>∃(o:List Nat) (s:Nat),o.length<=N/\i=.int .i64 (o.length:Int)/\uI a b o s/\wr.ownsRow w.heap.size 186 1 (.slice (some ⟨w.heap.size,0,none⟩) N N) N (enc (o++List.replicate (N-o.length) 0))/\wr.cell? ⟨cb,0,none⟩=some (.int .u64 (s:Int))/\wr.frozen? ⟨cb,0,none⟩=false/\w.grownBy wr (some cb)) (λi _=>N-(intOf i).toNat)
  case atStart=>exact⟨[],0,Nat.zero_le _,rfl,⟨ao.nil,by omega,by simp[val]⟩,hown,hc1,hf1,hg0⟩
  case round =>
   clear hown hc1 hf1 hg0;obtain⟨o,s,ho,rfl,hinv,hown,hc,hf,hg⟩:=hrel;by_cases hlt:o.length<N
   ·have haw := ha.grown hna hg;have hbw:=hb.grown hnb hg;have hx:=ha.dig.getD o.length;have hy:=hb.dig.getD o.length;have hinv2:=Lib.hid (Ug ha.dig hb.dig hinv);have hs:=hinv.2.1;rw[List.getD_eq_getElem?_getD] at hx hy;obtain⟨x,X⟩:∃x,Hid (a[o.length]?.getD 0=x):=⟨_,rfl⟩;obtain⟨y,Y⟩:∃y,Hid (b[o.length]?.getD 0=y):=⟨_,rfl⟩;rw[X.out] at hx;rw[Y.out] at hy;have INV:=Lib.hid hinv;clear hinv;go_wp2_with fail;refine (BG a o.length _ _ _ _ haw rfl (by omega)).mono ?_;rintro e w' ⟨rfl,rfl⟩;rw[X.out];go_wp2_with fail;refine (BG b o.length _ _ _ _ hbw rfl (by omega)).mono ?_;rintro e w' ⟨rfl,rfl⟩
    rw[Y.out];go_wp2_with fail;refine (a3q x y s cb _ hx hy hs hc hf).mono ?_;rintro e w2 ⟨rfl,hc2,hf2,hg2⟩;have hown2:=hown.kept hg2 (.inr (by simp[Value.ownBlock];omega));clear hown hc hf haw hbw;rw[DY _ (show 0<N-o.length by omega)] at hown2;have hcw:w2.cell? ⟨w.heap.size,o.length,none⟩=some (.int .u32 0):=by
     rw[hown2.cellAt o.length (by omega)];simp[enc]
    have hfw:=hown2.frozenAt o.length;obtain⟨hown3,hg3⟩:=hown2.stored o.length (.int .u32 (((s+(x+y))%4294967296:Nat):Int));rw[GZ] at hown3;have OWN:=Lib.hid hown3;have hg4:w.grownBy w2 (some cb):=grownBy_trans hg hg2;have hg5:w.grownBy (w2.setCell ⟨w.heap.size,o.length,none⟩ (.int .u32 (((s+(x+y))%4294967296:Nat):Int))) (some cb) :=
     ⟨hg4.os,hg4.tape,hg4.output,by simpa[World.setCell] using hg4.size,λk hk hne=>(Below.heap_setCell _ _ _ _ (show k≠w.heap.size by omega)).trans (hg4.block k hk hne)⟩
    have hc6:(w2.setCell ⟨w.heap.size,o.length,none⟩ (.int .u32 (((s+(x+y))%4294967296:Nat):Int))).cell? ⟨cb,0,none⟩=some (.int .u64 (((s+(x+y))/4294967296:Nat):Int)) :=
     (World.cell?_of_block (Below.heap_setCell _ _ _ _ (show cb≠w.heap.size by omega))).trans hc2
    have hf6:(w2.setCell ⟨w.heap.size,o.length,none⟩ (.int .u32 (((s+(x+y))%4294967296:Nat):Int))).frozen? ⟨cb,0,none⟩=false :=
     (World.frozen?_of_block (Below.heap_setCell _ _ _ _ (show cb≠w.heap.size by omega))).trans hf2
    have C6:=Lib.hid hc6;have F6:=Lib.hid hf6;have G5:=Lib.hid hg5;clear hown3 hown2 hg3 hg4 hg5 hc6 hf6 hc2 hf2 hg2 hg;obtain⟨dg,DG⟩:∃dg,Hid ((s+(x+y))%4294967296=dg):=⟨_,rfl⟩;rw[DG.out] at OWN C6 F6 G5 ⊢;go_wp2;have h:=hinv2.out;rw[X.out,Y.out,DG.out] at h;have hl:(o++[dg]).length=o.length+1:=by simp
    refine⟨⟨o++[dg],_,by omega,by rw[hl];rfl,h,?_,C6.out,F6.out,G5.out⟩,by simp[intOf];omega⟩;rw[hl,Nat.sub_add_eq];exact OWN.out
   ·obtain rfl : o.length = N := by omega
    have DGo:=Lib.hid hinv.1;have INV:=Lib.hid hinv;rw[Nat.sub_self,List.replicate_zero,List.append_nil] at hown;obtain⟨p',c',hv,hrow,_⟩:=sU hown hinv.1;obtain⟨rfl,rfl⟩:some (⟨w.heap.size,0,none⟩:Addr)=p'/\o.length=c':=by
     simp only[Value.slice.injEq] at hv;exact⟨hv.1,hv.2.2⟩
    have HR:=Lib.hid hrow;have HG:=Lib.hid hg;clear hv hown hrow hinv hc hf hg ha hb;go_wp2;go_ret;exact⟨o,o.length,HN.out,rfl,HR.out,⟨s,INV.out⟩,HG.out⟩
end
set_option maxHeartbeats 2000000
set_option maxRecDepth 100000
section
theorem YV(a b:List Nat)(pa pb:Option Addr)(la ca lb kb cb:Nat)(w:World)(ha:Row w pa ca a)(hb:Row w pb kb b)(hla:la=a.length)(hlb:lb=b.length)
  (hna:0<a.length->∀x,pa=some x->x.block≠cb) (hnb:0<b.length->∀x,pb=some x->x.block≠cb) (hal:a.length<=1000) (hbl:b.length<=1000)
  (hcb:cb<w.heap.size) (hc:w.cell? ⟨cb,0,none⟩=some (.int .u64 ((0:Nat):Int))) (hf:w.frozen? ⟨cb,0,none⟩=false) :
  Calls Tryz.prog 264 #[.slice pa la ca,.slice pb lb kb,.func (.func 266) #[] #[.pointer (some ⟨cb,0,none⟩)]] w λe w' =>
   ∃o c,o.length=max a.length b.length+1/\e=.returned (.slice (some ⟨w.heap.size,0,none⟩) o.length c)/\Row w' (some ⟨w.heap.size,0,none⟩) c o/\(∃s,ym a b o s)/\w.grownBy w' (some cb):=by
 subst hla hlb;obtain⟨i,hi,hz0,hz1,hz2⟩:=info_parts rY;obtain⟨N,hN⟩:∃N,N=max a.length b.length+1:=⟨_,rfl⟩;have eN:max (a.length:Int) (b.length:Int)+1=(N:Int):=by omega
 have HN:=Lib.hid hN;have hN1:a.length<N:=by omega
 have hN2:b.length<N:=by omega
 have hN3:N<=1001:=by omega
 have hN4:N<=max a.length b.length+1:=by omega
 clear hN;have hla:=ha.le;have hma:=ha.max;have hlb:=hb.le;have hmb:=hb.max;go_enter Tryz.func264,Tryz.ntmps264;go_wp2_with (at_make;refine wpList_make_full _ rfl _ _ 81 rfl w.heap.size 186 i (.int .u32 0) 1 Tryz.underlying81 hi hz0 hz1 _ _ _ _ N rfl rfl (by omega) (by omega) (by rw[hz2];omega) (by unfold maxLen;omega) (Nat.le_refl _) ?_);all_goals
  intro w1 hown hgr;rw[show (madeCells #[Value.int IntKind.u32 0] N).toList=enc ([]++List.replicate N 0) from by rw[enc,List.nil_append,List.map_replicate];exact toList_madeCells_one _ _] at hown;have hg0:w.grownBy w1 (some cb):=⟨hgr.os,hgr.tape,hgr.output,hgr.size,λk hk _=>hgr.block k hk (by simp)⟩;have hc1:w1.cell? ⟨cb,0,none⟩=some (.int .u64 ((0:Nat):Int)):=(World.cell?_of_block (hgr.block cb hcb (by simp))).trans hc;have hf1:w1.frozen? ⟨cb,0,none⟩=false:=(World.frozen?_of_block (hgr.block cb hcb (by simp))).trans hf;clear hgr hc hf;go_wp2_with fail
  go_loopw [19] (λi wr=>∃(o:List Nat) (s:Nat),o.length<=N/\i=.int .i64 (o.length:Int)/\ym a b o s/\wr.ownsRow w.heap.size 186 1 (.slice (some ⟨w.heap.size,0,none⟩) N N) N (enc (o++List.replicate (N-o.length) 0))/\wr.cell? ⟨cb,0,none⟩=some (.int .u64 (s:Int))/\wr.frozen? ⟨cb,0,none⟩=false/\w.grownBy wr (some cb)) (λi _=>N-(intOf i).toNat)
  case atStart=>exact⟨[],0,Nat.zero_le _,rfl,⟨ao.nil,by omega,by simp[val]⟩,hown,hc1,hf1,hg0⟩
  case round =>
   clear hown hc1 hf1 hg0;obtain⟨o,s,ho,rfl,hinv,hown,hc,hf,hg⟩:=hrel;by_cases hlt:o.length<N
   ·have haw := ha.grown hna hg;have hbw:=hb.grown hnb hg;have hx:=ha.dig.getD o.length;have hy:=hb.dig.getD o.length;have hinv2:=Lib.hid (YE ha.dig hb.dig hinv);have hs:=hinv.2.1;rw[List.getD_eq_getElem?_getD] at hx hy;obtain⟨x,X⟩:∃x,Hid (a[o.length]?.getD 0=x):=⟨_,rfl⟩;obtain⟨y,Y⟩:∃y,Hid (b[o.length]?.getD 0=y):=⟨_,rfl⟩;rw[X.out] at hx;rw[Y.out] at hy;have INV:=Lib.hid hinv;clear hinv;go_wp2_with fail;refine (BG a o.length _ _ _ _ haw rfl (by omega)).mono ?_;rintro e w' ⟨rfl,rfl⟩;rw[X.out];go_wp2_with fail;refine (BG b o.length _ _ _ _ hbw rfl (by omega)).mono ?_;rintro e w' ⟨rfl,rfl⟩
    rw[Y.out];go_wp2_with fail;refine (a1m x y s cb _ hx hy hs hc hf).mono ?_;rintro e w2 ⟨rfl,hc2,hf2,hg2⟩;have hown2:=hown.kept hg2 (.inr (by simp[Value.ownBlock];omega));clear hown hc hf haw hbw;rw[DY _ (show 0<N-o.length by omega)] at hown2;have hcw:w2.cell? ⟨w.heap.size,o.length,none⟩=some (.int .u32 0):=by
     rw[hown2.cellAt o.length (by omega)];simp[enc]
    have hfw:=hown2.frozenAt o.length;obtain⟨hown3,hg3⟩:=hown2.stored o.length (.int .u32 (((x+4294967296-y-s)%4294967296:Nat):Int));rw[GZ] at hown3;have OWN:=Lib.hid hown3;have hg4:w.grownBy w2 (some cb):=grownBy_trans hg hg2;have hg5:w.grownBy (w2.setCell ⟨w.heap.size,o.length,none⟩ (.int .u32 (((x+4294967296-y-s)%4294967296:Nat):Int))) (some cb) :=
     ⟨hg4.os,hg4.tape,hg4.output,by simpa[World.setCell] using hg4.size,λk hk hne=>(Below.heap_setCell _ _ _ _ (show k≠w.heap.size by omega)).trans (hg4.block k hk hne)⟩
    have hc6:(w2.setCell ⟨w.heap.size,o.length,none⟩ (.int .u32 (((x+4294967296-y-s)%4294967296:Nat):Int))).cell? ⟨cb,0,none⟩=some (.int .u64 ((if x<y+s then 1 else 0:Nat):Int)) :=
     (World.cell?_of_block (Below.heap_setCell _ _ _ _ (show cb≠w.heap.size by omega))).trans hc2
    have hf6:(w2.setCell ⟨w.heap.size,o.length,none⟩ (.int .u32 (((x+4294967296-y-s)%4294967296:Nat):Int))).frozen? ⟨cb,0,none⟩=false :=
     (World.frozen?_of_block (Below.heap_setCell _ _ _ _ (show cb≠w.heap.size by omega))).trans hf2
    have C6:=Lib.hid hc6;have F6:=Lib.hid hf6;have G5:=Lib.hid hg5;clear hown3 hown2 hg3 hg4 hg5 hc6 hf6 hc2 hf2 hg2 hg;obtain⟨dg,DG⟩:∃dg,Hid ((x+4294967296-y-s)%4294967296=dg):=⟨_,rfl⟩;rw[DG.out] at OWN C6 F6 G5 ⊢;go_wp2;have h:=hinv2.out;rw[X.out,Y.out,DG.out] at h;have hl:(o++[dg]).length=o.length+1:=by simp
    refine⟨⟨o++[dg],_,by omega,by rw[hl];rfl,h,?_,C6.out,F6.out,G5.out⟩,by simp[intOf];omega⟩;rw[hl,Nat.sub_add_eq];exact OWN.out
   ·obtain rfl : o.length = N := by omega
    have DGo:=Lib.hid hinv.1;have INV:=Lib.hid hinv;rw[Nat.sub_self,List.replicate_zero,List.append_nil] at hown;obtain⟨p',c',hv,hrow,_⟩:=sU hown hinv.1;obtain⟨rfl,rfl⟩:some (⟨w.heap.size,0,none⟩:Addr)=p'/\o.length=c':=by
     simp only[Value.slice.injEq] at hv;exact⟨hv.1,hv.2.2⟩
    have HR:=Lib.hid hrow;have HG:=Lib.hid hg;clear hv hown hrow hinv hc hf hg ha hb;go_wp2;go_ret;exact⟨o,o.length,HN.out,rfl,HR.out,⟨s,INV.out⟩,HG.out⟩
end
set_option maxHeartbeats 1000000
set_option maxRecDepth 100000
section
theorem Qz(a b:List Nat)(pa pb:Option Addr)(la ca lb kb:Nat)(w:World)(ha:Row w pa ca a)(hb:Row w pb kb b)(hla:la=a.length)(hlb:lb=b.length)(hal:a.length<=1000)(hbl:b.length<=1000) :
  Calls Tryz.prog 205 #[.slice pa la ca,.slice pb lb kb] w λe w' =>
   ∃o p c,e=.returned (.slice p o.length c)/\Row w' p c o/\New w p/\ac w w'/\val o=val a+val b:=by
 subst hla hlb;have ha1:=Lib.hid (ha.alloc (.cells #[.int .u64 0] 185));have hb1:=Lib.hid (hb.alloc (.cells #[.int .u64 0] 185));have hna:0<a.length->∀x,pa=some x->x.block≠w.heap.size:=by
  intro h0 x hx;obtain⟨b',o,hp,hlt,_⟩:=ha.at h0;rw[hp] at hx;cases hx;exact Nat.ne_of_lt hlt
 have hnb:0<b.length->∀x,pb=some x->x.block≠w.heap.size:=by
  intro h0 x hx;obtain⟨b',o,hp,hlt,_⟩:=hb.at h0;rw[hp] at hx;cases hx;exact Nat.ne_of_lt hlt
 have HNA:=Lib.hid hna;have HNB:=Lib.hid hnb;have da:=ha.dig;have db:=hb.dig;clear hna hnb ha hb;have hmf:∀(fn:Fn) (first cap:Array Value) (w:World),(Instr.makeFunc fn first cap).run Tryz.prog w=.ok (.func fn first cap) w:=λ_ _ _ _=>rfl
 go_enter Tryz.func205,Tryz.ntmps205;go_wp2_with fail;refine (YW a b _ _ _ _ _ _ w.heap.size _ ha1.out hb1.out rfl rfl HNA.out HNB.out hal hbl (by simp) (by go_simp) (by go_simp)).mono ?_;rintro e w1 ⟨o,c,hlen,rfl,hrow,⟨s,hinv⟩,hg⟩;have hv:=a6v da db hinv (by omega);have V:=Lib.hid hv;have HR:=Lib.hid hrow;have HG:=Lib.hid hg;clear hlen hv hrow hg hinv;go_wp2;go_ret;refine⟨o,some ⟨w.heap.size+1,0,none⟩,c,rfl,by simpa using HR.out,λx hx=>?_,?_,V.out⟩
 ·cases hx;simp
 ·refine ⟨HG.out.os, HG.out.tape, HG.out.output, ?_, λk hk => ?_⟩
  ·have := HG.out.size;simp at this;omega
  ·rw [HG.out.block k (by simp; omega) (by simp; omega)];exact Below.heap_alloc _ _ _ hk
theorem IJ(a b:List Nat)(pa pb:Option Addr)(la ca lb kb:Nat)(w:World)(ha:Row w pa ca a)(hb:Row w pb kb b)(hla:la=a.length)(hlb:lb=b.length)(hal:a.length<=1000)(hbl:b.length<=1000)(hle:val b<=val a) :
  Calls Tryz.prog 206 #[.slice pa la ca,.slice pb lb kb] w λe w' =>
   ∃o p c,e=.returned (.slice p o.length c)/\Row w' p c o/\New w p/\ac w w'/\val o=val a-val b:=by
 subst hla hlb;have ha1:=Lib.hid (ha.alloc (.cells #[.int .u64 0] 185));have hb1:=Lib.hid (hb.alloc (.cells #[.int .u64 0] 185));have hna:0<a.length->∀x,pa=some x->x.block≠w.heap.size:=by
  intro h0 x hx;obtain⟨b',o,hp,hlt,_⟩:=ha.at h0;rw[hp] at hx;cases hx;exact Nat.ne_of_lt hlt
 have hnb:0<b.length->∀x,pb=some x->x.block≠w.heap.size:=by
  intro h0 x hx;obtain⟨b',o,hp,hlt,_⟩:=hb.at h0;rw[hp] at hx;cases hx;exact Nat.ne_of_lt hlt
 have HNA:=Lib.hid hna;have HNB:=Lib.hid hnb;clear hna hnb ha hb;have hmf:∀(fn:Fn) (first cap:Array Value) (w:World),(Instr.makeFunc fn first cap).run Tryz.prog w=.ok (.func fn first cap) w:=λ_ _ _ _=>rfl
 go_enter Tryz.func206,Tryz.ntmps206;go_wp2_with fail;refine (YV a b _ _ _ _ _ _ w.heap.size _ ha1.out hb1.out rfl rfl HNA.out HNB.out hal hbl (by simp) (by go_simp) (by go_simp)).mono ?_;rintro e w1 ⟨o,c,hlen,rfl,hrow,⟨s,hinv⟩,hg⟩;have hv:=YD hinv (by omega) (by omega) hle;have V:=Lib.hid hv;have HR:=Lib.hid hrow;have HG:=Lib.hid hg;clear hlen hv hrow hg hinv;go_wp2;go_ret;refine⟨o,some ⟨w.heap.size+1,0,none⟩,c,rfl,by simpa using HR.out,λx hx=>?_,?_,V.out⟩
 ·cases hx;simp
 ·refine ⟨HG.out.os, HG.out.tape, HG.out.output, ?_, λk hk => ?_⟩
  ·have := HG.out.size;simp at this;omega
  ·rw [HG.out.block k (by simp; omega) (by simp; omega)];exact Below.heap_alloc _ _ _ hk
end
set_option maxHeartbeats 1000000
set_option maxRecDepth 100000
section
def sumP(a b:Nm)(neg:Bool):Nm×Bool:=if a.right&&b.right then fit (a.z+(if neg then -(val b.d:Int) else val b.d)) else (zero,false)
theorem NR.len{w:World}{n:Bool}{p:Option Addr}{l c:Nat}{a:Nm}(_h:NR w n p l c a)(hr:a.right=true):a.d.length<=64:=(a.right_iff.1 hr).1
theorem a6x{a b:Nm}{neg:Bool}(ha:a.right=false):sumP a b neg=(zero,false):=by simp[sumP,ha]
theorem a6B{a b:Nm}{neg:Bool}(hb:b.right=false):sumP a b neg=(zero,false):=by simp[sumP,hb]
theorem a6A{a b:Nm}{neg:Bool}{o:List Nat}(ha:a.right=true)(hb:b.right=true)(hn:a.neg=neg)(hv:val o=val a.d+val b.d):gY neg o=sumP a b neg:=by
 rw[sw,sumP,ha,hb,hv,Nm.z,hn];cases neg<;>simp<;>congr 1<;>omega
theorem a6y{a b:Nm}{neg:Bool}{o:List Nat}(ha:a.right=true)(hb:b.right=true)(hn:a.neg≠neg)(hle:val b.d<=val a.d)(hv:val o=val a.d-val b.d):gY a.neg o=sumP a b neg:=by
 rw[sw,sumP,ha,hb,hv,Nm.z];cases h:a.neg<;>cases neg<;>simp_all<;>congr 1<;>omega
theorem a6z{a b:Nm}{neg:Bool}{o:List Nat}(ha:a.right=true)(hb:b.right=true)(hn:a.neg≠neg)(hle:val a.d<=val b.d)(hv:val o=val b.d-val a.d):gY neg o=sumP a b neg:=by
 rw[sw,sumP,ha,hb,hv,Nm.z];cases h:a.neg<;>cases neg<;>simp_all<;>congr 1<;>omega
theorem NF{a b:Nm}(ha:a.right=true)(hb:b.right=true)(da:ao a.d)(db:ao b.d):(0<=cmpL a.d b.d <-> val b.d<=val a.d):=by
 rw[Bw da db (a.right_iff.1 ha).2.1 (b.right_iff.1 hb).2.1];unfold ni;split
 ·omega
 ·split<;>omega
theorem a6F(a b:Nm)(neg na nb:Bool)(pa pb:Option Addr)(la ca lb cb:Nat)(w:World)(ha:NR w na pa la ca a)(hb:NR w nb pb lb cb b)(ra:a.right=true)(rb:b.right=true)(hn:a.neg=neg) :
  Calls Tryz.prog 208 #[.agg #[.bool na,.slice pa la ca],.agg #[.bool nb,.slice pb lb cb],.bool neg] w (jR w (sumP a b neg)):=by
 have la64:=ha.len ra;have lb64:=hb.len rb;have hq:(na==neg)=true:=by rw[ha.1,hn];simp
 have HN:=Lib.hid hn;clear hn;go_enter Tryz.func208,Tryz.ntmps208;go_wp2_with fail;refine (c9 a _ _ _ _ _ (ha.ext ag)).mono ?_;rintro e w1 ⟨rfl,hx⟩;rw[ra];have hx0:ac w w1:=ac.step ag hx;obtain⟨_,⟨_,_,_⟩,⟨_,_,_⟩,_,_,_⟩:=cM hx w.heap.size;go_wp2_with fail;refine (c9 b _ _ _ _ _ (hb.ext ag)).mono ?_;rintro e w2 ⟨rfl,hx2⟩;rw[rb];have hx1:ac w w2:=ac.step hx0 hx2;obtain⟨_,⟨_,_,_⟩,⟨_,_,_⟩,_,_,_⟩:=cM hx2 w.heap.size;go_wp2_with fail;refine (Qz a.d b.d _ _ _ _ _ _ _ (ha.2.2.ext ag) (hb.2.2.ext ag) ha.2.1 hb.2.1 (by omega) (by omega)).mono ?_;rintro e w3 ⟨o,p,c,rfl,hrow,hnew,hx3,hv⟩
 have hx4:ac w w3:=ac.step hx1 hx3;obtain⟨_,⟨_,_,_⟩,⟨_,_,_⟩,_,_,_⟩:=cM hx3 w.heap.size;have SP:=Lib.hid (a6A ra rb HN.out hv);clear hv;go_wp2_with fail;refine (nN neg o _ _ _ _ hrow rfl).mono ?_;rintro e w4 ⟨n',p',l',c',rfl,hnr,hnew',hx5⟩;rw[SP.out] at hnr ⊢;have hx6:ac w w4:=ac.step hx4 hx5;obtain⟨_,⟨_,_,_⟩,⟨_,_,_⟩,_,_,_⟩:=cM hx5 w.heap.size;go_wp2_with fail;refine bodyPost_ret (v:=.tuple #[.agg #[.bool n',.slice p' l' c'],.bool (sumP a b neg).2]) (by simp[results,Tryz.results208,go_sem, *]) rfl ?_
 exact⟨n',p',l',c',rfl,⟨hnr.1,hnr.2.1,hnr.2.2.set hnew' _ (by simp;omega) _ |>.set hnew' _ (by simp;omega) _⟩,hnew'.mono (by omega),ag⟩
theorem a6D(a b:Nm)(neg na nb:Bool)(pa pb:Option Addr)(la ca lb cb:Nat)(w:World)(ha:NR w na pa la ca a)(hb:NR w nb pb lb cb b)(ra:a.right=true)(rb:b.right=true)(hn:a.neg≠neg)(hc:val b.d<=val a.d) :
  Calls Tryz.prog 208 #[.agg #[.bool na,.slice pa la ca],.agg #[.bool nb,.slice pb lb cb],.bool neg] w (jR w (sumP a b neg)):=by
 have la64:=ha.len ra;have lb64:=hb.len rb;have hq:(na==neg)=false:=by rw[ha.1];simpa using hn
 have hge:0<=cmpL a.d b.d:=(NF ra rb ha.2.2.dig hb.2.2.dig).2 hc;go_enter Tryz.func208,Tryz.ntmps208;go_wp2_with fail;refine (c9 a _ _ _ _ _ (ha.ext ag)).mono ?_;rintro e w1 ⟨rfl,hx⟩;rw[ra];have hx0:ac w w1:=ac.step ag hx;obtain⟨_,⟨_,_,_⟩,⟨_,_,_⟩,_,_,_⟩:=cM hx w.heap.size;go_wp2_with fail;refine (c9 b _ _ _ _ _ (hb.ext ag)).mono ?_;rintro e w2 ⟨rfl,hx2⟩;rw[rb];have hx1:ac w w2:=ac.step hx0 hx2;obtain⟨_,⟨_,_,_⟩,⟨_,_,_⟩,_,_,_⟩:=cM hx2 w.heap.size;go_wp2_with fail;refine (uq a.d b.d _ _ _ _ _ _ _ (ha.2.2.ext ag) (hb.2.2.ext ag) ha.2.1 hb.2.1).mono ?_;rintro e w3 ⟨rfl,hx3⟩
 have hx4:ac w w3:=ac.step hx1 hx3;obtain⟨_,⟨_,_,_⟩,⟨_,_,_⟩,_,_,_⟩:=cM hx3 w.heap.size;go_wp2_with fail
 go_region_held3 (λw'=>w'.cell? ⟨w.heap.size,0,none⟩=some (.bool na)/\w'.cell? ⟨w.heap.size,1,none⟩=some (.slice pa la ca)/\w'.cell? ⟨w.heap.size+1,1,none⟩=some (.slice pb lb cb)) (refine⟨?_,?_,?_⟩<;>go_simp) (first|(go_at_call 206;refine (IJ a.d b.d _ _ _ _ _ _ _ (ha.2.2.ext ag) (hb.2.2.ext ag) ha.2.1 hb.2.1 (by omega) (by omega) hc).mono ?_;rintro e w4 ⟨o,p,c,rfl,hrow,hnew,hx5,hv⟩;(have hx6:ac w w4:=ac.step ag hx5);obtain⟨_,⟨_,_,_⟩,⟨_,_,_⟩,_,_,_⟩:=cM hx5 w.heap.size;have SP:=Lib.hid (a6y ra rb hn hc hv);clear hv)|(go_at_call 142;refine (nN na o _ _ _ _ hrow rfl).mono ?_;rintro e w5 ⟨n',p',l',c',rfl,hnr,hnew',hx7⟩;(have hx8:ac w w5:=ac.step hx6 hx7);obtain⟨_,⟨_,_,_⟩,⟨_,_,_⟩,_,_,_⟩:=cM hx7 w.heap.size))
 have hn1:=ha.1;rw[hn1,SP.out] at hnr;have HNR:=Lib.hid hnr;rw[hn1,SP.out];clear hn1 hnr;go_wp2_with fail;refine bodyPost_ret (v:=.tuple #[.agg #[.bool n',.slice p' l' c'],.bool (sumP a b neg).2]) (by simp[results,Tryz.results208,go_sem, *]) rfl ?_;exact⟨n',p',l',c',rfl,⟨HNR.out.1,HNR.out.2.1,HNR.out.2.2.set hnew' _ (by simp;omega) _ |>.set hnew' _ (by simp;omega) _⟩,hnew'.mono (by omega),ag⟩
theorem a6E(a b:Nm)(neg na nb:Bool)(pa pb:Option Addr)(la ca lb cb:Nat)(w:World)(ha:NR w na pa la ca a)(hb:NR w nb pb lb cb b)(ra:a.right=true)(rb:b.right=true)(hn:a.neg≠neg)(hc:¬val b.d<=val a.d) :
  Calls Tryz.prog 208 #[.agg #[.bool na,.slice pa la ca],.agg #[.bool nb,.slice pb lb cb],.bool neg] w (jR w (sumP a b neg)):=by
 have la64:=ha.len ra;have lb64:=hb.len rb;have hq:(na==neg)=false:=by rw[ha.1];simpa using hn
 have hlt:cmpL a.d b.d<0:=by
  have h1:=NF ra rb ha.2.2.dig hb.2.2.dig;rcases Int.lt_or_le (cmpL a.d b.d) 0 with h|h
  ·exact h
  ·exact absurd (h1.1 h) hc
 go_enter Tryz.func208,Tryz.ntmps208;go_wp2_with fail;refine (c9 a _ _ _ _ _ (ha.ext ag)).mono ?_;rintro e w1 ⟨rfl,hx⟩;rw[ra];have hx0:ac w w1:=ac.step ag hx;obtain⟨_,⟨_,_,_⟩,⟨_,_,_⟩,_,_,_⟩:=cM hx w.heap.size;go_wp2_with fail;refine (c9 b _ _ _ _ _ (hb.ext ag)).mono ?_;rintro e w2 ⟨rfl,hx2⟩;rw[rb];have hx1:ac w w2:=ac.step hx0 hx2;obtain⟨_,⟨_,_,_⟩,⟨_,_,_⟩,_,_,_⟩:=cM hx2 w.heap.size;go_wp2_with fail;refine (uq a.d b.d _ _ _ _ _ _ _ (ha.2.2.ext ag) (hb.2.2.ext ag) ha.2.1 hb.2.1).mono ?_;rintro e w3 ⟨rfl,hx3⟩;have hx4:ac w w3:=ac.step hx1 hx3;obtain⟨_,⟨_,_,_⟩,⟨_,_,_⟩,_,_,_⟩:=cM hx3 w.heap.size
 go_wp2_with fail;refine (IJ b.d a.d _ _ _ _ _ _ _ (hb.2.2.ext ag) (ha.2.2.ext ag) hb.2.1 ha.2.1 (by omega) (by omega) (by omega)).mono ?_;rintro e w4 ⟨o,p,c,rfl,hrow,hnew,hx5,hv⟩;have hx6:ac w w4:=ac.step hx4 hx5;obtain⟨_,⟨_,_,_⟩,⟨_,_,_⟩,_,_,_⟩:=cM hx5 w.heap.size;have SP:=Lib.hid (a6z ra rb hn (by omega) hv);clear hv;go_wp2_with fail;refine (nN neg o _ _ _ _ hrow rfl).mono ?_;rintro e w6 ⟨n',p',l',c',rfl,hnr,hnew',hx7⟩;rw[SP.out] at hnr ⊢;have hx8:ac w w6:=ac.step hx6 hx7;obtain⟨_,⟨_,_,_⟩,⟨_,_,_⟩,_,_,_⟩:=cM hx7 w.heap.size;go_wp2_with fail
 refine bodyPost_ret (v:=.tuple #[.agg #[.bool n',.slice p' l' c'],.bool (sumP a b neg).2]) (by simp[results,Tryz.results208,go_sem, *]) rfl ?_;exact⟨n',p',l',c',rfl,⟨hnr.1,hnr.2.1,hnr.2.2.set hnew' _ (by simp;omega) _ |>.set hnew' _ (by simp;omega) _⟩,hnew'.mono (by omega),ag⟩
theorem QB(a b:Nm)(neg na nb:Bool)(pa pb:Option Addr)(la ca lb cb:Nat)(w:World)(ha:NR w na pa la ca a)(hb:NR w nb pb lb cb b) :
  Calls Tryz.prog 208 #[.agg #[.bool na,.slice pa la ca],.agg #[.bool nb,.slice pb lb cb],.bool neg] w (jR w (sumP a b neg)):=by
 by_cases ra:a.right=true
 ·by_cases rb : b.right = true
  ·by_cases hn : a.neg = neg
   ·exact a6F a b neg na nb pa pb la ca lb cb w ha hb ra rb hn
   ·by_cases hc : val b.d <= val a.d
    ·exact a6D a b neg na nb pa pb la ca lb cb w ha hb ra rb hn hc
    ·exact a6E a b neg na nb pa pb la ca lb cb w ha hb ra rb hn hc
  ·have rb : b.right = false := by simpa using rb
   have S:=Lib.hid (a6B (a:=a) (neg:=neg) rb);go_enter Tryz.func208,Tryz.ntmps208;go_wp2_with fail;refine (c9 a _ _ _ _ _ (ha.ext ag)).mono ?_;rintro e w1 ⟨rfl,hx⟩;rw[ra];have hx0:ac w w1:=ac.step ag hx;obtain⟨_,⟨_,_,_⟩,⟨_,_,_⟩,_,_,_⟩:=cM hx w.heap.size;go_wp2_with fail;refine (c9 b _ _ _ _ _ (hb.ext ag)).mono ?_;rintro e w2 ⟨rfl,hx2⟩;rw[rb];have hx1:ac w w2:=ac.step hx0 hx2;obtain⟨_,⟨_,_,_⟩,⟨_,_,_⟩,_,_,_⟩:=cM hx2 w.heap.size;go_wp2_with fail;refine bodyPost_ret (v:=.tuple #[.agg #[.bool false,.slice none 0 0],.bool false]) (by simp[results,Tryz.results208,go_sem, *]) rfl ?_;rw[S.out]
   exact⟨false,none,0,0,rfl,⟨rfl,rfl,Row.nil _⟩,New.none _,ag⟩
 ·have ra : a.right = false := by simpa using ra
  have S:=Lib.hid (a6x (b:=b) (neg:=neg) ra);go_enter Tryz.func208,Tryz.ntmps208;go_wp2_with fail;refine (c9 a _ _ _ _ _ (ha.ext ag)).mono ?_;rintro e w1 ⟨rfl,hx⟩;rw[ra];have hx0:ac w w1:=ac.step ag hx;obtain⟨_,⟨_,_,_⟩,⟨_,_,_⟩,_,_,_⟩:=cM hx w.heap.size;go_wp2_with fail;refine bodyPost_ret (v:=.tuple #[.agg #[.bool false,.slice none 0 0],.bool false]) (by simp[results,Tryz.results208,go_sem, *]) rfl ?_;rw[S.out];exact⟨false,none,0,0,rfl,⟨rfl,rfl,Row.nil _⟩,New.none _,ag⟩
end
set_option maxHeartbeats 1000000
set_option maxRecDepth 100000
section
theorem a6C(a b:Nm):sumP a b (!b.neg)=s7 a b:=by
 unfold sumP s7;have e:(if (!b.neg)=true then -(val b.d:Int) else (val b.d:Int)) = -b.z:=by
  unfold Nm.z;cases b.neg<;>simp
 rw[e];rfl
theorem a6w(a b:Nm):sumP a b b.neg=tq a b:=rfl
theorem NR.set{w w0:World}{n:Bool}{p:Option Addr}{l c:Nat}{a:Nm}(h:NR w n p l c a)(hn:New w0 p)(x:Addr)(hx:x.block<w0.heap.size)(v:Value):NR (w.setCell x v) n p l c a :=
 ⟨h.1,h.2.1,h.2.2.set hn x hx v⟩
theorem a10(a b:Nm)(na nb:Bool)(pa pb:Option Addr)(la ca lb cb:Nat)(w:World)(ha:NR w na pa la ca a)(hb:NR w nb pb lb cb b) :
  Calls Tryz.prog 293 #[.agg #[.bool na,.slice pa la ca],.agg #[.bool nb,.slice pb lb cb]] w (jR w (s7 a b)):=by
 have S:=Lib.hid (a6C a b);have hn1:=hb.1;subst hn1;go_enter Tryz.func293,Tryz.ntmps293;go_wp2_with fail;refine (QB a b _ _ _ _ _ _ _ _ _ _ (ha.ext ag) (hb.ext ag)).mono ?_;rintro e w1 ⟨n',p',l',c',rfl,hnr,hnew,hx⟩;rw[S.out] at hnr ⊢;have hx0:ac w w1:=ac.step ag hx;obtain⟨_,⟨_,_,_⟩,⟨_,_,_⟩,_,_,_⟩:=cM hx w.heap.size;go_wp2_with fail;refine bodyPost_ret (v:=.tuple #[.agg #[.bool n',.slice p' l' c'],.bool (s7 a b).2]) (by simp[results,Tryz.results293,go_sem, *]) rfl ?_;exact⟨n',p',l',c',rfl,(hnr.set hnew _ (by simp) _).set hnew _ (by simp) _,hnew.mono (by simp;omega),ag⟩
theorem a1W(a b:Nm)(na nb:Bool)(pa pb:Option Addr)(la ca lb cb:Nat)(w:World)(ha:NR w na pa la ca a)(hb:NR w nb pb lb cb b) :
  Calls Tryz.prog 143 #[.agg #[.bool na,.slice pa la ca],.agg #[.bool nb,.slice pb lb cb]] w (jR w (tq a b)):=by
 have S:=Lib.hid (a6w a b);have hn1:=hb.1;subst hn1;go_enter Tryz.func143,Tryz.ntmps143;go_wp2_with fail;refine (QB a b _ _ _ _ _ _ _ _ _ _ (ha.ext ag) (hb.ext ag)).mono ?_;rintro e w1 ⟨n',p',l',c',rfl,hnr,hnew,hx⟩;rw[S.out] at hnr ⊢;have hx0:ac w w1:=ac.step ag hx;obtain⟨_,⟨_,_,_⟩,⟨_,_,_⟩,_,_,_⟩:=cM hx w.heap.size;go_wp2_with fail;refine bodyPost_ret (v:=.tuple #[.agg #[.bool n',.slice p' l' c'],.bool (tq a b).2]) (by simp[results,Tryz.results143,go_sem, *]) rfl ?_;exact⟨n',p',l',c',rfl,(hnr.set hnew _ (by simp) _).set hnew _ (by simp) _,hnew.mono (by simp;omega),ag⟩
theorem Nv{a b:Nm}(h:a.right=false\/b.right=false):ej a b=0:=by
 unfold ej;rcases h with h|h<;>simp[h]
theorem XF{a b:Nm}(ra:a.right=true)(rb:b.right=true)(da:ao a.d)(db:ao b.d)(ha:a.neg=true)(hb:b.neg=true):ej a b=cmpL b.d a.d:=by
 rw[Bw db da (b.right_iff.1 rb).2.1 (a.right_iff.1 ra).2.1,ej,ra,rb,Nm.z,Nm.z,ha,hb]
 unfold eP ni
 simp only[Bool.and_self,↓reduceIte]
 repeat' split
 all_goals omega
theorem UB{a:Nm}(ra:a.right=true)(da:ao a.d)(ha:a.neg=true):0<val a.d:=by
 rcases Nat.eq_zero_or_pos (val a.d) with h|h
 ·have hd := BD da (a.right_iff.1 ra).2.1;rw[h,ji] at hd;have:=(a.right_iff.1 ra).2.2 hd.symm;rw[ha] at this;cases this
 ·exact h
theorem XD{a b:Nm}(ra:a.right=true)(rb:b.right=true)(da:ao a.d)(ha:a.neg=true)(hb:b.neg=false):ej a b = -1:=by
 have h0:=UB ra da ha;rw[ej,ra,rb,Nm.z,Nm.z,ha,hb];unfold eP;simp only[Bool.and_self,↓reduceIte];rw[if_pos (by simp;omega)]
theorem XE{a b:Nm}(ra:a.right=true)(rb:b.right=true)(db:ao b.d)(ha:a.neg=false)(hb:b.neg=true):ej a b=1:=by
 have h0:=UB rb db hb;rw[ej,ra,rb,Nm.z,Nm.z,ha,hb];unfold eP;simp only[Bool.and_self,↓reduceIte];rw[if_neg (by first|(simp;done)|(simp;omega)),if_neg (by first|(simp;done)|(simp;omega))]
theorem XG{a b:Nm}(ra:a.right=true)(rb:b.right=true)(da:ao a.d)(db:ao b.d)(ha:a.neg=false)(hb:b.neg=false):ej a b=cmpL a.d b.d:=by
 rw[Bw da db (a.right_iff.1 ra).2.1 (b.right_iff.1 rb).2.1,ej,ra,rb,Nm.z,Nm.z,ha,hb]
 unfold eP ni
 simp only[Bool.and_self,↓reduceIte,Bool.false_eq_true]
 repeat' split
 all_goals omega
theorem CH(a b:Nm)(na nb:Bool)(pa pb:Option Addr)(la ca lb cb:Nat)(w:World)(ha:NR w na pa la ca a)(hb:NR w nb pb lb cb b) :
  Calls Tryz.prog 145 #[.agg #[.bool na,.slice pa la ca],.agg #[.bool nb,.slice pb lb cb]] w λe w'=>e=.returned (.int .i64 (ej a b))/\ac w w':=by
 by_cases ra:a.right=true
 ·by_cases rb : b.right = true
  ·have n1 := ha.1;have n2:=hb.1;have da:=ha.2.2.dig;have db:=hb.2.2.dig;cases h1:a.neg<;>cases h2:b.neg<;>rw[h1] at n1<;>rw[h2] at n2<;>subst n1 n2
   ·have S := Lib.hid (XG ra rb da db h1 h2);clear h1 h2;go_enter Tryz.func145,Tryz.ntmps145;go_wp2_with fail;refine (c9 a _ _ _ _ _ (ha.ext ag)).mono ?_;rintro e w1 ⟨rfl,hx⟩;rw[ra];have hx0:ac w w1:=ac.step ag hx;obtain⟨_,⟨_,_,_⟩,_,_,_⟩:=lG hx w.heap.size;go_wp2_with fail;refine (c9 b _ _ _ _ _ (hb.ext ag)).mono ?_;rintro e w2 ⟨rfl,hx2⟩;rw[rb];have hx1:ac w w2:=ac.step hx0 hx2;obtain⟨_,⟨_,_,_⟩,_,_,_⟩:=lG hx2 w.heap.size;go_wp2_with fail;refine (uq a.d b.d _ _ _ _ _ _ _ (ha.2.2.ext ag) (hb.2.2.ext ag) ha.2.1 hb.2.1).mono ?_;rintro e w3 ⟨rfl,hx3⟩;have hx4:ac w w3:=ac.step hx1 hx3;go_wp2
    go_ret;exact⟨by rw[S.out];rfl,hx4⟩
   ·have S := Lib.hid (XE ra rb db h1 h2);clear h1 h2;go_enter Tryz.func145,Tryz.ntmps145;go_wp2_with fail;refine (c9 a _ _ _ _ _ (ha.ext ag)).mono ?_;rintro e w1 ⟨rfl,hx⟩;rw[ra];have hx0:ac w w1:=ac.step ag hx;obtain⟨_,⟨_,_,_⟩,_,_,_⟩:=lG hx w.heap.size;go_wp2_with fail;refine (c9 b _ _ _ _ _ (hb.ext ag)).mono ?_;rintro e w2 ⟨rfl,hx2⟩;rw[rb];have hx1:ac w w2:=ac.step hx0 hx2;obtain⟨_,⟨_,_,_⟩,_,_,_⟩:=lG hx2 w.heap.size;go_wp2;go_ret;exact⟨by rw[S.out];rfl,hx1⟩
   ·have S := Lib.hid (XD ra rb da h1 h2);clear h1 h2;go_enter Tryz.func145,Tryz.ntmps145;go_wp2_with fail;refine (c9 a _ _ _ _ _ (ha.ext ag)).mono ?_;rintro e w1 ⟨rfl,hx⟩;rw[ra];have hx0:ac w w1:=ac.step ag hx;obtain⟨_,⟨_,_,_⟩,_,_,_⟩:=lG hx w.heap.size;go_wp2_with fail;refine (c9 b _ _ _ _ _ (hb.ext ag)).mono ?_;rintro e w2 ⟨rfl,hx2⟩;rw[rb];have hx1:ac w w2:=ac.step hx0 hx2;obtain⟨_,⟨_,_,_⟩,_,_,_⟩:=lG hx2 w.heap.size;go_wp2;go_ret;exact⟨by rw[S.out];rfl,hx1⟩
   ·have S := Lib.hid (XF ra rb da db h1 h2);clear h1 h2;go_enter Tryz.func145,Tryz.ntmps145;go_wp2_with fail;refine (c9 a _ _ _ _ _ (ha.ext ag)).mono ?_;rintro e w1 ⟨rfl,hx⟩;rw[ra];have hx0:ac w w1:=ac.step ag hx;obtain⟨_,⟨_,_,_⟩,_,_,_⟩:=lG hx w.heap.size;go_wp2_with fail;refine (c9 b _ _ _ _ _ (hb.ext ag)).mono ?_;rintro e w2 ⟨rfl,hx2⟩;rw[rb];have hx1:ac w w2:=ac.step hx0 hx2;obtain⟨_,⟨_,_,_⟩,_,_,_⟩:=lG hx2 w.heap.size;go_wp2_with fail;refine (uq b.d a.d _ _ _ _ _ _ _ (hb.2.2.ext ag) (ha.2.2.ext ag) hb.2.1 ha.2.1).mono ?_;rintro e w3 ⟨rfl,hx3⟩;have hx4:ac w w3:=ac.step hx1 hx3;go_wp2
    go_ret;exact⟨by rw[S.out];rfl,hx4⟩
  ·have rb : b.right = false := by simpa using rb
   have S:=Lib.hid (Nv (a:=a) (.inr rb));go_enter Tryz.func145,Tryz.ntmps145;go_wp2_with fail;refine (c9 a _ _ _ _ _ (ha.ext ag)).mono ?_;rintro e w1 ⟨rfl,hx⟩;rw[ra];have hx0:ac w w1:=ac.step ag hx;obtain⟨_,⟨_,_,_⟩,_,_,_⟩:=lG hx w.heap.size;go_wp2_with fail;refine (c9 b _ _ _ _ _ (hb.ext ag)).mono ?_;rintro e w2 ⟨rfl,hx2⟩;rw[rb];have hx1:ac w w2:=ac.step hx0 hx2;obtain⟨_,⟨_,_,_⟩,_,_,_⟩:=lG hx2 w.heap.size;go_wp2;go_ret;exact⟨by rw[S.out];rfl,hx1⟩
 ·have ra : a.right = false := by simpa using ra
  have S:=Lib.hid (Nv (b:=b) (.inl ra));go_enter Tryz.func145,Tryz.ntmps145;go_wp2_with fail;refine (c9 a _ _ _ _ _ (ha.ext ag)).mono ?_;rintro e w1 ⟨rfl,hx⟩;rw[ra];have hx0:ac w w1:=ac.step ag hx;obtain⟨_,⟨_,_,_⟩,_,_,_⟩:=lG hx w.heap.size;go_wp2;go_ret;exact⟨by rw[S.out];rfl,hx0⟩
end
end Go.Proofs.YtghemgdfmldoeaaGreat
