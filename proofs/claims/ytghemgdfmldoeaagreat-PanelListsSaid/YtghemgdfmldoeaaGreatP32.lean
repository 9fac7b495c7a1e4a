import Derived.Test.YtghemgdfmldoeaaGreatP24
import Derived.Test.YtghemgdfmldoeaaGreatP27
set_option linter.unusedVariables false
set_option linter.unusedSimpArgs false
namespace Go.Proofs.YtghemgdfmldoeaaGreat
open Go.RowKit
set_option maxHeartbeats 4000000
set_option maxRecDepth 100000
section
open Go.RowKit Go.Shelf
attribute [local go_sem] Oper.semAt_some
attribute [local go_sem] aL dz
theorem a0F(m:Nat)(hm:1<=m)(n:Nat)(e:Nat->Ed)(v B1 B2 c:Nat)(p:Option Addr)(cl:Bool)(w:World)(hB1:B1<w.heap.size)(hB2:B2<w.heap.size)(hv:v<=w.heap.size)
  (c0:w.cell? ⟨B1,0,none⟩=some (.slice p n c)) (c1:w.cell? ⟨B2,0,none⟩=some (.bool cl)) (hR:jP v w p n e) (hn:n<=1000) (hcl:1<=n) :
  SeqStopsK Fence.wide m Tryz.prog 184 #[.pointer (some ⟨B1,0,none⟩),.pointer (some ⟨B2,0,none⟩)] (λi:Nat=>#[fi (e i),fi (e (nx n i))]) (lp v B1 B2) (λxs=>xs=cP (jq cl n)) (λpre=>∃k,k<(jq cl n)/\pre=cP (k+1)) (jq cl n) w:=λL J Jx W hW hA hAx hY h0=>by
 have k0:W.cell? ⟨B1,0,none⟩=some (.slice p n c):=(hW.cell (p:=⟨B1,0,none⟩) hB1).trans c0;have k1:W.cell? ⟨B2,0,none⟩=some (.bool cl):=(hW.cell (p:=⟨B2,0,none⟩) hB2).trans c1;have hrW:jP v W p n e:=hR.below (hW.mono hv);clear c0 c1 hR;refine callsIn_of_wp Tryz.func184 rfl trivial ?_ rfl;simp only[Tryz.ntmps184,List.size_toArray,List.length_cons,List.length_nil,Nat.reduceAdd,Nat.reduceSub,Array.replicate_succ,Array.replicate_zero,List.push_toArray,List.append_toArray,List.nil_append,List.cons_append];gi_wp2
 gi_loopw [4] (λi wr=>∃k:Nat,i=.int .i64 ((k:Int)+1)/\k<=n-1/\J (cP k) wr/\lp v B1 B2 W wr) (λi _=>n-(intOf i).toNat)
 case atStart=>exact⟨0,rfl,by omega,h0,Below.refl _ _,λ_=>rfl,λ_=>rfl⟩
 case round =>
  obtain⟨k,rfl,hk,hJ,hK0,hK1,hK2⟩:=hrel;have m0:wr.cell? ⟨B1,0,none⟩=some (.slice p n c):=(hK1 0).trans k0;have m1:wr.cell? ⟨B2,0,none⟩=some (.bool cl):=(hK2 0).trans k1;by_cases hlt:k+1<n
  ·obtain ⟨g, o, rfl, hg, E0⟩ := hrW k (by omega);obtain⟨g',o',hp,_,E1⟩:=hrW (k+1) hlt;cases hp;obtain⟨a0,a1,a2,a3,a4,a5,a6⟩:=E0.below hK0 hg;obtain⟨b0,b1,b2,b3,b4,b5,b6⟩:=E1.below hK0 hg;have hkk:Hid (k<jq cl n):=Lib.hid (by unfold jq;split<;>omega);have hJd:J (cP k) wr.drew:=hA _ _ _ none hJ ⟨rfl,rfl,rfl,Nat.le_refl _,λ_ _ _=>rfl⟩ (λr h=>by cases h);obtain⟨f1,t1,x1,y1,hy1,hR1⟩:=hY (cP k) k wr.drew hJd (by rw[Es];exact hkk.out);rw[show e (nx n k)=e (k+1) by unfold nx;rw[if_pos hlt]] at hy1;unfold fi at hy1;have wk:IntKind.i64.wrap (k:Int)=(k:Int):=wrap_in (by unfold I64;omega)
   have ix0:0<=(k:Int):=by omega
   have ix1:(k:Int)+1<(n:Int):=by omega
   have ix2:(k:Int)<(n:Int):=by omega
   have ix3:0<=(k:Int)+1:=by omega
   have HK:=Lib.hid (show lp v B1 B2 W wr from⟨hK0,hK1,hK2⟩);have hR2:=RoundIn.mono hR1 (R':=λe W'=>∃b:Bool,e=.returned (.bool b)/\Hid (if b then J (cP k++[k]) W'/\lp v B1 B2 wr.drew W' else Jx (cP k++[k]) W')) (by
    rintro e' W1 (⟨rfl,h1,h2⟩|⟨rfl,h1⟩)
    ·exact⟨true,rfl,Lib.hid (by rw[if_pos rfl];exact⟨h1,h2⟩)⟩
    ·exact⟨false,rfl,Lib.hid (by rw[if_neg (by decide)];exact h1)⟩)
   clear hJ E0 E1 hK0 hK1 hK2 hJd hR1;gi_wp2;gi_region_with (refine hR2.mono ?_;rintro e' W1 ⟨b,rfl,h1⟩);all_goals
    cases b
    ·have h2 : Hid (Jx (cP (k + 1)) W1) := Lib.hid (by have := h1.out; rw [if_neg (by decide)] at this; rw [uP]; exact this);clear h1;gi_wp2;refine bodyPost_ret (results_none rfl _ _ _) rfl ?_;exact⟨⟨_,rfl⟩,.inr ⟨_,⟨k,hkk.out,rfl⟩,h2.out⟩⟩
    ·have h2:Hid (J (cP (k+1)) W1/\lp v B1 B2 W W1):=Lib.hid (by
      have:=h1.out;rw[if_pos rfl] at this;rw[uP];exact⟨this.1,HK.out.trans (lp.trans (B:=wr.drew) ⟨⟨rfl,rfl,rfl,Nat.le_refl _,λ_ _=>rfl⟩,λ_=>rfl,λ_=>rfl⟩ this.2)⟩)
     clear h1;gi_wp2;exact⟨⟨k+1,by simp,by omega,h2.out.1,h2.out.2⟩,by simp[intOf];omega⟩
  ·obtain rfl : k = n - 1 := by omega
   have HK:=Lib.hid (show lp v B1 B2 W wr from⟨hK0,hK1,hK2⟩);cases cl with
   | false =>
    have h2:Hid (J (cP (jq false n)) wr):=Lib.hid (by unfold jq;rw[if_neg (by decide)];exact hJ);clear hJ hK0 hK1 hK2;have ix:¬(((n-1:Nat):Int)+1<(n:Int)):=by omega
    gi_wp2;go_end0;first
     | exact⟨⟨_,rfl⟩,.inl ⟨_,rfl,h2.out⟩⟩
     | exact⟨⟨_,rfl⟩,.inl h2.out⟩
   | true =>
    obtain⟨g,o,rfl,hg,E0⟩:=hrW (n-1) (by omega);obtain⟨g',o',hp,_,E1⟩:=hrW 0 (by omega);cases hp;rw[Nat.zero_mul,Nat.add_zero] at E1;have hJd:J (cP (n-1)) wr.drew:=hA _ _ _ none hJ ⟨rfl,rfl,rfl,Nat.le_refl _,λ_ _ _=>rfl⟩ (λr h=>by cases h);have hY1:=hY (cP (n-1)) (n-1) wr.drew hJd (by rw[Es];unfold jq;rw[if_pos rfl];omega);rw[show e (nx n (n-1))=e 0 by unfold nx;rw[if_neg (by omega)]] at hY1;have hE0:=E0.below hK0 hg;have hE1:=E1.below hK0 hg;obtain⟨j,hj⟩:∃j,n-1=j:=⟨_,rfl⟩;rw[hj] at hE0 hY1 ⊢;have ix:¬((j:Int)+1<(n:Int)):=by omega
    have hjn:Hid (n=j+1):=Lib.hid (by omega);have hb:dC Tryz.prog 184=(Tryz.f184.body).getD .skip:=by unfold dC;rw[Tryz.func184];rfl
    have key:=Lib.hid (λx3 x4 x5 x6 x7 x8 x9 x10 x11 x12 x13 x14 x15 x16 x17 x18 x19 x20 x21 x22 x23 x24 x25 x26 x27 x28 x29 x30 x31 x32 x33 x34=>a0E m L B1 B2 g o n c j (e (n-1)) (e 0) wr x3 x4 x5 x6 x7 x8 x9 x10 x11 x12 x13 x14 x15 x16 x17 x18 x19 x20 x21 x22 x23 x24 x25 x26 x27 x28 x29 x30 x31 x32 x33 x34 (λb W1=>if b then J (cP j++[j]) W1 else Jx (cP j++[j]) W1) m0 (by rw[hj];exact hE0) hE1 hn (by omega) hm (by
     obtain⟨f1,t1,z1,y1,hy1,hR⟩:=hY1;refine⟨f1,t1,z1,y1,by rw[hj];exact hy1,RoundIn.mono hR ?_⟩;rintro e' W1 (⟨rfl,h1,h2⟩|⟨rfl,h1⟩)
     ·exact⟨true,rfl,by rw[if_pos rfl];exact h1⟩
     ·exact⟨false,rfl,by rw[if_neg (by decide)];exact h1⟩))
    clear hJ E0 E1 hK0 hK1 hK2 hJd hj hk hlt hE0 hE1 hY1;gi_wp2;refine Code.wpIn_mono (Q:=λe a W1=>e=.normal/\a.defers=[]/\OD (λb W1=>if b then J (cP j++[j]) W1 else Jx (cP j++[j]) W1) W1) ?_ ?_
    ·rintro e' ⟨tm, df⟩ W1 ⟨rfl, rfl, b, h1⟩;have h2:Hid (J (cP (jq true n)) W1\/∃pre,(∃k,k<jq true n/\pre=cP (k+1))/\Jx pre W1):=Lib.hid (by
      cases b with
      | true=>rw[if_pos rfl] at h1;exact .inl (by unfold jq;rw[if_pos rfl,hjn.out,uP];exact h1)
      | false=>rw[if_neg (by decide)] at h1;exact .inr ⟨_,⟨j,by unfold jq;rw[if_pos rfl,hjn.out];omega,rfl⟩,by rw[uP];exact h1⟩)
     clear h1;gi_wp2;go_end0;first
      | exact⟨⟨_,rfl⟩,h2.out⟩
      | exact⟨⟨_,rfl⟩,h2.out.imp (λh=>⟨_,rfl,h⟩) id⟩
    ·have key2 := λx3 x4 x5 x6 x7 x8 x9 x10 x11 x12 x13 x14 x15 x16 x17 x18 x19 x20 x21 x22 x23 x24 x25 x26 x27 x28 x29 x30 x31 x32 x33 x34 => key.out x3 x4 x5 x6 x7 x8 x9 x10 x11 x12 x13 x14 x15 x16 x17 x18 x19 x20 x21 x22 x23 x24 x25 x26 x27 x28 x29 x30 x31 x32 x33 x34
     rw[hb] at key2;simp only[Tryz.f184,Option.getD,kF,Nat.reduceEqDiff,reduceIte] at key2;exact key2 _ _ _ _ _ _ _ _ _ _ _ _ _ _ _ _ _ _ _ _ _ _ _ _ _ _ _ _ _ _ _ _
end
set_option maxHeartbeats 8000000
set_option maxRecDepth 100000
section
open Go.RowKit Go.Shelf
attribute [local go_sem] Oper.semAt_some
attribute [local go_sem] aL dz
theorem a5Y(p:Option Addr)(n c:Nat)(cl:Bool)(w:World) :
  Calls Tryz.prog 123 #[.slice p n c,.bool cl] w λe w'=>e=.returned (.func (.func 184) #[] #[.pointer (some ⟨w.heap.size,0,none⟩),.pointer (some ⟨w.heap.size+1,0,none⟩)])/\ac w w'/\w'.cell? ⟨w.heap.size,0,none⟩=some (.slice p n c)/\w'.cell? ⟨w.heap.size+1,0,none⟩=some (.bool cl)/\w.heap.size+1<w'.heap.size:=by
 go_enter Tryz.func123,Tryz.ntmps123;go_wp2;go_ret;exact⟨rfl,ag,by go_simp,by go_simp,by simp⟩
theorem VP{a:Array Value}(h:a.size=76):∃x0 x1 x2 x3 x4 x5 x6 x7 x8 x9 x10 x11 x12 x13 x14 x15 x16 x17 x18 x19 x20 x21 x22 x23 x24 x25 x26 x27 x28 x29 x30 x31 x32 x33 x34 x35 x36 x37 x38 x39 x40 x41 x42 x43 x44 x45 x46 x47 x48 x49 x50 x51 x52 x53 x54 x55 x56 x57 x58 x59 x60 x61 x62 x63 x64 x65 x66 x67 x68 x69 x70 x71 x72 x73 x74 x75,a=List.toArray (x0::x1::x2::x3::x4::x5::x6::x7::x8::x9::x10::x11::x12::x13::x14::x15::x16::x17::x18::x19::x20::x21::x22::x23::x24::x25::x26::x27::x28::x29::x30::x31::x32::x33::x34::x35::x36::x37::x38::x39::x40::x41::x42::x43::x44::x45::x46::x47::x48::x49::x50::x51::x52::x53::x54::x55::x56::x57::x58::x59::x60::x61::x62::x63::x64::x65::x66::x67::x68::x69::x70::x71::x72::x73::x74::x75::[]):=by
 obtain⟨l⟩:=a;match l,h with|x0::x1::x2::x3::x4::x5::x6::x7::x8::x9::x10::x11::x12::x13::x14::x15::x16::x17::x18::x19::x20::x21::x22::x23::x24::x25::x26::x27::x28::x29::x30::x31::x32::x33::x34::x35::x36::x37::x38::x39::x40::x41::x42::x43::x44::x45::x46::x47::x48::x49::x50::x51::x52::x53::x54::x55::x56::x57::x58::x59::x60::x61::x62::x63::x64::x65::x66::x67::x68::x69::x70::x71::x72::x73::x74::x75::[],_=>exact⟨_,_,_,_,_,_,_,_,_,_,_,_,_,_,_,_,_,_,_,_,_,_,_,_,_,_,_,_,_,_,_,_,_,_,_,_,_,_,_,_,_,_,_,_,_,_,_,_,_,_,_,_,_,_,_,_,_,_,_,_,_,_,_,_,_,_,_,_,_,_,_,_,_,_,_,_,rfl⟩
theorem JW{V W:World}{r:Nat->Nat}{k n:Nat}{e:Nat->Ed}{v:Value}(h:af V W r k (pE n e) [v]):∃p c,v=.slice p n c/\n<=c/\c<=maxLen/\jP V.heap.size V p n e:=by
 obtain⟨u,e1,p,c,e2,h1,h2,h3⟩:=h;obtain rfl:v=u:=by simpa using e1
 refine⟨p,c,e2,h1,h2,λi hi=>?_⟩;obtain⟨g,o,xs,T,k1,k2,k3,cs,d,k4,k5⟩:=h3 i hi;have hg:=(Array.getElem?_eq_some_iff.1 k2).1;obtain⟨_,_,rfl,⟨rfl,_⟩,_,_,rfl,⟨rfl,_⟩,_,_,rfl,⟨rfl,_⟩,_,_,rfl,⟨rfl,_⟩,_,_,rfl,⟨rfl,_⟩,_,_,rfl,⟨rfl,_⟩,_,_,rfl,⟨rfl,_⟩,rfl⟩:=k5;have at':∀j,V.cell? ⟨g,o+i*7+j,none⟩=xs[o+i*7+j]? := λj=>cell_of_row _ _ _ _ _ _ k2
 have dr:∀j,xs[o+i*7+j]? = (xs.toList.drop (o+i*7))[j]? := λj=>by rw[List.getElem?_drop,Array.getElem?_toList]
 refine⟨g,o,k1,hg,?_,?_,?_,?_,?_,?_,?_⟩
 ·have:=at' 0;rw[Nat.add_zero] at this;rw[this];have:=dr 0;rw[Nat.add_zero] at this;rw[this,k4];rfl
 ·rw[at' 1,dr 1,k4];rfl
 ·rw[at' 2,dr 2,k4];rfl
 ·rw[at' 3,dr 3,k4];rfl
 ·rw[at' 4,dr 4,k4];rfl
 ·rw[at' 5,dr 5,k4];rfl
 ·rw[at' 6,dr 6,k4];rfl
structure mX (w W:World) (p0 p1 n c:Nat) (k r z:Int) (p:Option Addr):Prop where
 c0:W.cell? ⟨p0,0,none⟩=some (.int .i64 k)
 c1:W.cell? ⟨p0,1,none⟩=some (.slice p n c)
 c2:W.cell? ⟨p0,2,none⟩=some (.int .i64 r)
 z:W.cell? ⟨p1,0,none⟩=some (.int .i64 z)
 f:W.frozen? ⟨p1,0,none⟩=false
theorem mX.ext{w W W':World}{p0 p1 n c:Nat}{k r z:Int}{p:Option Addr}(h:mX w W p0 p1 n c k r z p)(hx:ac W W')(h0:p0<W.heap.size)(h1:p1<W.heap.size):mX w W' p0 p1 n c k r z p :=
 ⟨(hx.cell (p:=⟨p0,0,none⟩) h0).trans h.c0,(hx.cell (p:=⟨p0,1,none⟩) h0).trans h.c1,(hx.cell (p:=⟨p0,2,none⟩) h0).trans h.c2,(hx.cell (p:=⟨p1,0,none⟩) h1).trans h.z,(hx.frozen (p:=⟨p1,0,none⟩) h1).trans h.f⟩
theorem mX.own(w:World)(p0 p1 n c:Nat)(k r z:Int)(p:Option Addr):Own (λ(_:List Nat) W=>mX w W p0 p1 n c k r z p):=λ_ A B row hs hg hr =>
 ⟨cell_kept hs.c0 hg hr,cell_kept hs.c1 hg hr,cell_kept hs.c2 hg hr,cell_kept hs.z hg hr,(frozen_kept hs.z hg hr).trans hs.f⟩
def Nn(p0 p1 n c B:Nat)(cl:Bool)(e:Nat->Ed)(p:Option Addr)(P7 P8 x:Nat)(x0 x4 x5 x6 x7 x8 x9 x10 x11 x12 x13 x14 x15 x16 x17 x18 x19 x20 x21 x22 x23 x24 x25 x26 x27 x28 x29 x30 x31 x32 x33 x34 x35 x36 x37 x38 x39 x40 x41 x42 x43 x44 x45 x46 x47 x48 x49 x50 x51 x52 x53 x54 x55 x56 x57 x58 x59 x60 x61 x62 x63 x64 x65 x66 x67 x68 x69 x70 x71 x72 x73 x74 x75:Value):Array Value:=List.toArray (x0::(.pointer (some ⟨p0,0,none⟩))::(.pointer (some ⟨p1,0,none⟩))::(.bool cl)::x4::x5::x6::(.pointer (some ⟨P7,0,none⟩))::(.pointer (some ⟨P8,0,none⟩))::x9::x10::x11::x12::x13::x14::x15::x16::x17::x18::x19::x20::x21::x22::x23::x24::x25::x26::x27::x28::x29::x30::x31::x32::x33::x34::x35::x36::x37::x38::x39::x40::x41::x42::x43::x44::x45::x46::x47::x48::(.pointer (some ⟨p0,1,none⟩))::(.slice p n c)::(.bool cl)::(.func (.func 184) #[] #[.pointer (some ⟨B,0,none⟩),.pointer (some ⟨B+1,0,none⟩)])::(fi (e x))::(fi (e (nx n x)))::x55::x56::x57::x58::x59::x60::x61::x62::x63::x64::x65::x66::x67::x68::x69::x70::x71::x72::x73::x74::x75::[])
def kB(e:Nat->Ed)(n i:Nat):Prop:=(e i).bx=(e (nx n i)).ax/\(e i).by'=(e (nx n i)).ay
theorem OV{s:Sh}{cl:Bool}(hn:1<=s.n):(∀i∈cP (jq cl s.n),kB s.e s.n i) <-> (eh (jn s.e) (s.n-1)=true/\(cl=true->vj s=true)):=by
 have m:∀i k,i∈cP k <-> i<k:=λi k=>List.mem_range
 have j1:∀i,i+1<s.n->(kB s.e s.n i <-> jn s.e i=true):=λi hi=>by
  unfold kB jn nx;rw[if_pos hi,Bool.and_eq_true,beq_iff_eq,beq_iff_eq];exact⟨λh=>⟨h.1.symm,h.2.symm⟩,λh=>⟨h.1.symm,h.2.symm⟩⟩
 have j2:kB s.e s.n (s.n-1) <-> vj s=true:=by
  unfold kB vj nx;rw[if_neg (by omega),Bool.and_eq_true,beq_iff_eq,beq_iff_eq];exact⟨λh=>⟨h.1.symm,h.2.symm⟩,λh=>⟨h.1.symm,h.2.symm⟩⟩
 rw[md];constructor
 ·intro h;refine⟨λk hk=>(j1 k (by omega)).1 (h k ((m _ _).2 (by unfold jq;split<;>omega))),λhc=>j2.1 (h _ ((m _ _).2 (by unfold jq;rw[if_pos hc];omega)))⟩
 ·intro ⟨h1, h2⟩ i hi;have hi:=(m _ _).1 hi;unfold jq at hi;by_cases g:i+1<s.n
  ·exact (j1 i g).2 (h1 i (by omega))
  ·cases cl with|true =>
    rw[if_pos rfl] at hi;rw[show i=s.n-1 by omega];exact j2.2 (h2 rfl)|false=>rw[if_neg (by decide)] at hi;omega
theorem Nl{s:Sh}(h:¬early s){cl:Bool}(hc:(s.k==2)=cl):bD s=if eh (jn s.e) (s.n-1)=false\/(cl=true/\vj s=false) then 12 else if cl=true/\s.r≠0\/s.r<0\/4194304<s.r then 3 else 0:=by
 unfold early at h;have e2:s.k=2 <-> cl=true:=by rw[<- hc];simp
 unfold bD;rw[if_neg (by omega),if_neg (by omega),if_neg (by omega),if_neg (by omega)];simp only[e2]
theorem Qk{s:Sh}(h:¬early s):1<=s.n:=by
 have hf:1<=gG s:=by unfold gG;split<;>decide
 unfold early at h;omega
theorem Xl{s:Sh}(h:¬early s){cl:Bool}(hc:(s.k==2)=cl)(g:∃i∈cP (jq cl s.n),¬kB s.e s.n i):bD s=12:=by
 rw[Nl h hc,if_pos];obtain⟨i,hi,hg⟩:=g;have hiff:=OV (s:=s) (cl:=cl) (Qk h);cases hA:eh (jn s.e) (s.n-1) with|false=>exact .inl rfl|true =>
  refine .inr ?_;cases cl with|false=>exact absurd (hiff.2 ⟨hA,nofun⟩ i hi) hg|true =>
   refine⟨rfl,?_⟩;cases hB:vj s with|false=>rfl|true=>exact absurd (hiff.2 ⟨hA,λ_=>hB⟩ i hi) hg
theorem Xo{s:Sh}(h:¬early s){cl:Bool}(hc:(s.k==2)=cl)(g:∀i∈cP (jq cl s.n),kB s.e s.n i):bD s=if cl=true/\s.r≠0\/s.r<0\/4194304<s.r then 3 else 0:=by
 obtain⟨g1,g2⟩:=(OV (s:=s) (cl:=cl) (Qk h)).1 g;rw[Nl h hc,if_neg];rw[g1];rintro (h|⟨h1,h2⟩)
 ·cases h
 ·rw[g2 h1] at h2;cases h2
theorem Xr(s:Sh)(h:¬early s):ae Tryz.prog 68 [bh s] (.one (aj (bD s) lim)):=by
 obtain⟨q,pf,L,hL,hpre⟩:=Xv s h;intro w vals hv;have hn:s.n<=40:=by unfold early at h;omega
 have hk:s.k=1\/s.k=2:=by unfold early at h;omega
 have hn1:1<=s.n:=by
  have hf:1<=gG s:=by unfold gG;split<;>decide
  unfold early at h;omega
 refine (callsIn_wide (n:=6)).1 ?_;refine callsIn_of_wp_marks Tryz.func68 rfl trivial ?_ rfl;refine wpIn_wide.2 ?_;have hb:dC Tryz.prog 68=(Tryz.f68.body).getD .skip:=by unfold dC;rw[Tryz.func68];rfl
 have hnf:nF 68=76:=by kernel_rfl
 have key:=λQ hQ=>Q7 hL pf hpre hv (Q:=Q) hQ
 rw[hb,hnf] at key;refine key _ ?_;clear key hpre hL hv;rintro⟨tm,df⟩ w0 ⟨r,cm,⟨hM,hd⟩,hT⟩;obtain rfl:df=[]:=hd;obtain⟨x0,x1,x2,x3,x4,x5,x6,x7,x8,x9,x10,x11,x12,x13,x14,x15,x16,x17,x18,x19,x20,x21,x22,x23,x24,x25,x26,x27,x28,x29,x30,x31,x32,x33,x34,x35,x36,x37,x38,x39,x40,x41,x42,x43,x44,x45,x46,x47,x48,x49,x50,x51,x52,x53,x54,x55,x56,x57,x58,x59,x60,x61,x62,x63,x64,x65,x66,x67,x68,x69,x70,x71,x72,x73,x74,x75,rfl⟩:=VP (show tm.size=76 from hT.1);have t1:au w w0 r (bI 76 (yd s)).m.length (ak 0) x1:=hT.2 1 (.one (ak 0)) (by kernel_rfl)
 have t2:au w w0 r (bI 76 (yd s)).m.length (ak 1) x2:=hT.2 2 (.one (ak 1)) (by kernel_rfl);have t3:au w w0 r (bI 76 (yd s)).m.length (yf s) x3:=hT.2 3 (.one (yf s)) (by kernel_rfl);obtain rfl:x1=.pointer (some ⟨r 0,0,none⟩):=by simpa using t1.scal.2
 obtain rfl:x2=.pointer (some ⟨r 1,0,none⟩):=by simpa using t2.scal.2
 obtain rfl:x3=.bool (s.k==2):=by simpa using t3.scal.1
 clear t1 t2 t3 hT;obtain⟨g0,cs0,d0,ec0,rep0,-⟩:=hM.blk 0 ⟨30,(bh s).l⟩ rfl;obtain⟨g1,cs1,d1,ec1,rep1,-⟩:=hM.blk 1 ⟨68,[.k 0]⟩ rfl;obtain⟨_,_,rfl,⟨rfl,_⟩,_,_,rfl,hro,_,_,rfl,⟨rfl,_,ir⟩,rfl⟩:=rep0;obtain⟨v,rfl,hrow⟩:=hro;obtain⟨p,c,rfl,hnc,hcm,hR⟩:=JW (V:=w) (W:=w0) (r:=r) (k:=0) ⟨v,rfl,hrow⟩;obtain⟨_,_,rfl,⟨rfl,_⟩,rfl⟩:=rep1;rw[ec0] at g0;rw[ec1] at g1;have hl0:=hM.lo 0 _ (show mb _ 0=some (⟨30,(bh s).l⟩:Mb) from rfl);have hl1:=hM.lo 1 _ (show mb _ 1=some (⟨68,[.k 0]⟩:Mb) from rfl);have hx:=hM.ext
 have hne:r 0≠r 1:=λe=>absurd (hM.inj 0 1 _ _ (show mb _ 0=some (⟨30,(bh s).l⟩:Mb) from rfl) (show mb _ 1=some (⟨68,[.k 0]⟩:Mb) from rfl) e) (by decide)
 clear ec0 ec1 hM hrow;obtain⟨p0,hp0⟩:∃p0,r 0=p0:=⟨_,rfl⟩;obtain⟨p1,hp1⟩:∃p1,r 1=p1:=⟨_,rfl⟩;rw[hp0] at g0 hl0 hne ⊢;rw[hp1] at g1 hl1 hne ⊢;clear hp0 hp1;have hI:mX w w0 p0 p1 s.n c s.k s.r 0 p:=⟨by rw[cell_of_row _ _ _ _ _ _ g0];simp,by rw[cell_of_row _ _ _ _ _ _ g0];simp,by rw[cell_of_row _ _ _ _ _ _ g0];simp,by rw[cell_of_row _ _ _ _ _ _ g1];simp,by simp[World.frozen?,g1]⟩;have z0:p0<w0.heap.size:=(Array.getElem?_eq_some_iff.1 g0).1;have z1:p1<w0.heap.size:=(Array.getElem?_eq_some_iff.1 g1).1;clear g0 g1 d0 d1;obtain⟨cl,hcl⟩:∃cl,Hid ((s.k==2)=cl):=⟨_,Lib.hid rfl⟩;rw[hcl.out]
 have hI0:=Lib.hid hI;obtain⟨a0,a1,a2,a3,a4⟩:=hI;refine (wpIn_wide (n:=6)).1 ?_;simp only[Tryz.f68,Option.getD,nT];gi_wp2;refine⟨trivial,(callsIn_wide.2 (a5Y p s.n c cl _)).mono ?_⟩;rintro e1 w1 ⟨rfl,hx1,b0,b1,hb1⟩;have hI1:=hI0.out.ext hx1 z0 z1;have hB1:Below w.heap.size w w1:=ac.step hx hx1;have hs1:=hx.size;clear a0 a1 a2 a3 a4;have hI1:=Lib.hid hI1;gi_wp2;refine wpIn_rangeFunc_ownH rfl (by omega) (gf:=184) (lb:=#[.pointer (some ⟨w0.heap.size,0,none⟩),.pointer (some ⟨w0.heap.size+1,0,none⟩)]) rfl trivial (enters_of Tryz.func184 (by kernel_rfl) rfl)
  (a0F 5 (by omega) s.n s.e w.heap.size w0.heap.size (w0.heap.size+1) c p cl w1 (by omega) hb1 (by omega) b0 b1 (hR.below hB1) (by omega) hn1) lp.trans
  (λW l o o' hl ho _ _=>⟨(Below.refl _ W).grown (grownBy_putObj' W l o') (by have:=(Array.getElem?_eq_some_iff.1 ho).1;omega) (λk e=>by cases e;omega),λq=>World.cell?_of_block (World.putObj_heap_other (by show w0.heap.size≠l;omega)),λq=>World.cell?_of_block (World.putObj_heap_other (by show w0.heap.size+1≠l;omega))⟩)
  (Below.refl _ _) (λ_=>rfl)
  (λpre W=>(mX w W p0 p1 s.n c s.k s.r 0 p/\Below w.heap.size w W)/\w1.heap.size<=W.heap.size/\∀i∈pre,kB s.e s.n i)
  (λc' pre W=>(c'=.ret/\mX w W p0 p1 s.n c s.k s.r 12 p/\Below w.heap.size w W)/\w1.heap.size<=W.heap.size/\∃i∈pre,¬kB s.e s.n i)
  (OwnFrom.and (OwnFrom.and ((mX.own w p0 p1 s.n c s.k s.r 0 p).from _) (ownFrom_below (Nat.le_refl _) (by omega))) (λ_ A B row hs hg hr=>⟨Nat.le_trans hs.1 hg.size,hs.2⟩))
  (λc' t A B row hs hg hr=>⟨⟨hs.1.1,mX.own w p0 p1 s.n c s.k s.r 12 p t A B row hs.1.2.1 hg (λr e=>(hr r e).2),(ownFrom_below (β:=List Nat) (Nat.le_refl _) (by omega)) t A B row hs.1.2.2 hg hr⟩,Nat.le_trans hs.2.1 hg.size,hs.2.2⟩)
  ⟨⟨hI1.out,hB1⟩,Nat.le_refl _,nofun⟩
  (λx a' W=>∃P7 P8,((W.cell? ⟨P7,3,none⟩=some (.int .i64 (s.e x).bx)/\W.cell? ⟨P7,4,none⟩=some (.int .i64 (s.e x).by'))/\W.cell? ⟨P8,1,none⟩=some (.int .i64 (s.e (nx s.n x)).ax)/\W.cell? ⟨P8,2,none⟩=some (.int .i64 (s.e (nx s.n x)).ay))/\a'={ tmps:=Nn p0 p1 s.n c w0.heap.size cl s.e p P7 P8 x x0 x4 x5 x6 x7 x8 x9 x10 x11 x12 x13 x14 x15 x16 x17 x18 x19 x20 x21 x22 x23 x24 x25 x26 x27 x28 x29 x30 x31 x32 x33 x34 x35 x36 x37 x38 x39 x40 x41 x42 x43 x44 x45 x46 x47 x48 x49 x50 x51 x52 x53 x54 x55 x56 x57 x58 x59 x60 x61 x62 x63 x64 x65 x66 x67 x68 x69 x70 x71 x72 x73 x74 x75,defers:=[] })
  (λx a' _ A B row hs hg hr => by
   obtain⟨P7,P8,⟨⟨h1,h2⟩,h3,h4⟩,e⟩:=hs;have hr':=λr e=>(hr r e).2
   exact⟨P7,P8,⟨⟨cell_kept h1 hg hr',cell_kept h2 hg hr'⟩,cell_kept h3 hg hr',cell_kept h4 hg hr'⟩,e⟩) ?assign ?body ?done ?stop
 case assign =>
  rintro l pre x W K ⟨⟨hi,hB⟩,hz,hf⟩ hK;have hK:=Lib.hid hK;have hi:=Lib.hid hi;have hf:=Lib.hid hf;have hW1:w0.heap.size+1<W.heap.size:=by omega
  have hvW:w.heap.size<=W.heap.size:=by omega
  have hp0:p0<W.heap.size:=by omega
  have hp1:p1<W.heap.size:=by omega
  have fin:Hid (∀o1 o2:Obj,KeepsFrom w1.heap.size W ((W.alloc o1).alloc o2)/\lp w.heap.size w0.heap.size (w0.heap.size+1) W ((W.alloc o1).alloc o2)/\mX w ((W.alloc o1).alloc o2) p0 p1 s.n c s.k s.r 0 p/\Below w.heap.size w ((W.alloc o1).alloc o2)/\w1.heap.size<=((W.alloc o1).alloc o2).heap.size):=Lib.hid λo1 o2=>by
   have hx2:ac W ((W.alloc o1).alloc o2):=ag;exact⟨((KeepsOthers.alloc _ _).trans (KeepsOthers.alloc _ _)).from _,⟨hx2.mono hvW,λq=>hx2.cell (p:=⟨_,q,none⟩) (show w0.heap.size<W.heap.size by omega),λq=>hx2.cell (p:=⟨_,q,none⟩) hW1⟩,hi.out.ext hx2 hp0 hp1,hB.trans (hx2.mono hvW),Nat.le_trans hz hx2.size⟩
  simp only[fi];gi_wp2;obtain⟨h1,h2,h3,h4,h5⟩:=fin.out (.cells #[.int .i64 (s.e x).k,.int .i64 (s.e x).ax,.int .i64 (s.e x).ay,.int .i64 (s.e x).bx,.int .i64 (s.e x).by',.int .i64 (s.e x).cx,.int .i64 (s.e x).cy] 108) (.cells #[.int .i64 (s.e (nx s.n x)).k,.int .i64 (s.e (nx s.n x)).ax,.int .i64 (s.e (nx s.n x)).ay,.int .i64 (s.e (nx s.n x)).bx,.int .i64 (s.e (nx s.n x)).by',.int .i64 (s.e (nx s.n x)).cx,.int .i64 (s.e (nx s.n x)).cy] 108);refine hK.out _ _ h1 h2 ⟨⟨h3,h4⟩,h5,hf.out⟩ ⟨W.heap.size,W.heap.size+1,⟨⟨by go_simp,by go_simp⟩,by go_simp,by go_simp⟩,?_⟩;rfl
 case body =>
  rintro l pre x a' W hl ⟨rc,hrc⟩ ⟨⟨hi,hB⟩,hz,hf⟩ ⟨P7,P8,⟨⟨d0,d1⟩,d2,d3⟩,rfl⟩ hlen;have hi0:=Lib.hid hi;obtain⟨a0,a1,a2,a3,a4⟩:=hi;have hf:=Lib.hid hf;have hlW:l<W.heap.size:=(Array.getElem?_eq_some_iff.1 hrc).1;have hp1:p1<W.heap.size:=by omega
  clear hrc;obtain⟨u,hu⟩:∃u,(s.e x).bx=u:=⟨_,rfl⟩;obtain⟨u',hu'⟩:∃u,(s.e (nx s.n x)).ax=u:=⟨_,rfl⟩;obtain⟨v,hv⟩:∃u,(s.e x).by'=u:=⟨_,rfl⟩
  obtain⟨v',hv'⟩:∃u,(s.e (nx s.n x)).ay=u:=⟨_,rfl⟩;have hfit:Hid (kB s.e s.n x <-> u=u'/\v=v'):=Lib.hid (by unfold kB;rw[hu,hu',hv,hv']);rw[hu] at d0;rw[hv] at d1;rw[hu'] at d2;rw[hv'] at d3;clear hu hu' hv hv';have bad:Hid (¬(u=u'/\v=v')->∃i∈pre++[x],¬kB s.e s.n i):=Lib.hid λg=>⟨x,by simp,λg'=>g (hfit.out.1 g')⟩
  unfold Nn;by_cases h1:u=u'
  ·by_cases h2 : v = v'
   ·subst h1 h2;have hall:Hid (∀i∈pre++[x],kB s.e s.n i):=Lib.hid λi hi=>by
     rcases List.mem_append.1 hi with hi|hi
     ·exact hf.out i hi
     ·rw[List.mem_singleton.1 hi];exact hfit.out.2 ⟨rfl,rfl⟩
    gi_wp2;exact⟨(KeepsOthers.refl _).from _,⟨Below.refl _ _,λ_=>rfl,λ_=>rfl⟩,⟨hi0.out,hB⟩,hz,hall.out⟩
   ·have g2 : (v == v') = false := by simpa using h2
    have hbad:Hid (∃i∈pre++[x],¬kB s.e s.n i):=Lib.hid (bad.out λg=>h2 g.2);subst h1;clear h2;gi_wp2;exact⟨(KeepsOthers.setCell _ _ _).from _,⟨rfl,⟨by go_simp,by go_simp,by go_simp,by go_simp,by go_simp⟩,hB.setCell (p:=⟨p1,0,none⟩) hl1 _⟩,by simp;omega,hbad.out⟩
  ·have g1 : (u == u') = false := by simpa using h1
   have hbad:Hid (∃i∈pre++[x],¬kB s.e s.n i):=Lib.hid (bad.out λg=>h1 g.1);clear h1;gi_wp2;exact⟨(KeepsOthers.setCell _ _ _).from _,⟨rfl,⟨by go_simp,by go_simp,by go_simp,by go_simp,by go_simp⟩,hB.setCell (p:=⟨p1,0,none⟩) hl1 _⟩,by simp;omega,hbad.out⟩
 case done =>
  rintro D xs W hD rfl ⟨⟨⟨a0,a1,a2,a3,a4⟩,hB⟩,hz,hf⟩ hK;have e0:=Xo h hcl.out hf;clear hf;have hDW:D<W.heap.size:=(Array.getElem?_eq_some_iff.1 hK).1;have hDp:D≠p1:=by omega
  have ST:Hid (∀z:Int,z=0\/z=3->(W.setCell ⟨p1,0,none⟩ (.int .i64 z)).heap[D]? = some (.deferred (some []))/\((W.setCell ⟨p1,0,none⟩ (.int .i64 z)).putObj D (.deferred none)).cell? ⟨p1,0,none⟩=some (.int .i64 z)/\ac w ((W.setCell ⟨p1,0,none⟩ (.int .i64 z)).putObj D (.deferred none))/\z.natAbs<=lim/\I64 z):=Lib.hid λz hz=>by
   have hs:=(KeepsOthers.setCell W ⟨p1,0,none⟩ (.int .i64 z)).same D _ hK rfl;have hc:(W.setCell ⟨p1,0,none⟩ (.int .i64 z)).cell? ⟨p1,0,none⟩=some (.int .i64 z):=by go_simp
   exact⟨hs,cell_kept hc (grownBy_putObj' _ D (.deferred none)) (λr e=>by cases e;exact⟨_,hs,rfl⟩),(hB.setCell (p:=⟨p1,0,none⟩) hl1 _).grown (grownBy_putObj' _ D (.deferred none)) (by simp;omega) (λk e=>by cases e;omega),by unfold lim;omega,by unfold I64;omega⟩
  clear hK hI1 hI0 hD hB;cases cl with|true =>
   by_cases r0:s.r=0
   ·have CS : Hid (bD s = 0) := Lib.hid (by rw [e0, if_neg (by omega)]);rw[r0] at a2;clear e0 r0;obtain⟨g1,g2,g3,g4⟩:=ST.out 0 (.inl rfl);gi_wp2;refine⟨by simp,.inl ⟨_,_,rfl,run_takeDeferred g1,?_⟩⟩;exact⟨.int .i64 0,by simp only[results,Tryz.results68];go_simp,_,rfl,by rw[CS.out];exact dL.2 ⟨g4,rfl⟩,g3⟩
   ·have CS : Hid (bD s = 3) := Lib.hid (by rw [e0, if_pos (.inl ⟨rfl, r0⟩)]);have b0:(s.r != 0)=true:=by simpa using r0
    clear e0 r0;obtain⟨g1,g2,g3,g4⟩:=ST.out 3 (.inr rfl);gi_wp2;refine⟨by simp,.inl ⟨_,_,rfl,run_takeDeferred g1,?_⟩⟩;exact⟨.int .i64 3,by simp only[results,Tryz.results68];go_simp,_,rfl,by rw[CS.out];exact dL.2 ⟨g4,rfl⟩,g3⟩|false =>
   by_cases r1:s.r<0
   ·have CS : Hid (bD s = 3) := Lib.hid (by rw [e0, if_pos (.inr (.inl r1))]);clear e0;obtain⟨g1,g2,g3,g4⟩:=ST.out 3 (.inr rfl);gi_wp2;refine⟨by simp,.inl ⟨_,_,rfl,run_takeDeferred g1,?_⟩⟩;exact⟨.int .i64 3,by simp only[results,Tryz.results68];go_simp,_,rfl,by rw[CS.out];exact dL.2 ⟨g4,rfl⟩,g3⟩
   ·by_cases r2 : 4194304 < s.r
    ·have CS : Hid (bD s = 3) := Lib.hid (by rw [e0, if_pos (.inr (.inr r2))]);clear e0;obtain⟨g1,g2,g3,g4⟩:=ST.out 3 (.inr rfl);gi_wp2;refine⟨by simp,.inl ⟨_,_,rfl,run_takeDeferred g1,?_⟩⟩;exact⟨.int .i64 3,by simp only[results,Tryz.results68];go_simp,_,rfl,by rw[CS.out];exact dL.2 ⟨g4,rfl⟩,g3⟩
    ·have CS : Hid (bD s = 0) := Lib.hid (by rw [e0, if_neg (by simp; omega)]);clear e0;obtain⟨g1,g2,g3,g4⟩:=ST.out 0 (.inl rfl);gi_wp2;refine⟨by simp,.inl ⟨_,_,rfl,run_takeDeferred g1,?_⟩⟩;exact⟨.int .i64 0,by simp only[results,Tryz.results68];go_simp,_,rfl,by rw[CS.out];exact dL.2 ⟨g4,rfl⟩,g3⟩
 case stop =>
  rintro D c' pre W hD ⟨k,hkm,rfl⟩ ⟨⟨rfl,⟨a0,a1,a2,a3,a4⟩,hB⟩,hz,i,hi,hg⟩ hK;have hDW:D<W.heap.size:=(Array.getElem?_eq_some_iff.1 hK).1;have CS:Hid (bD s=12):=Lib.hid (Xl h hcl.out ⟨i,List.mem_range.2 (by have:=List.mem_range.1 hi;omega),hg⟩);have g2:(W.putObj D (.deferred none)).cell? ⟨p1,0,none⟩=some (.int .i64 12):=cell_kept a3 (grownBy_putObj' _ D (.deferred none)) (λr e=>by cases e;exact⟨_,hK,rfl⟩);have g3:ac w (W.putObj D (.deferred none)):=hB.grown (grownBy_putObj' _ D (.deferred none)) (by omega) (λk e=>by cases e;omega)
  have g4:(12:Int).natAbs<=lim/\I64 12:=⟨by unfold lim;omega,by unfold I64;omega⟩;gi_wp2;refine⟨by simp,.inl ⟨_,_,rfl,run_takeDeferred hK,?_⟩⟩;exact⟨.int .i64 12,by simp only[results,Tryz.results68];go_simp,_,rfl,by rw[CS.out];exact dL.2 ⟨g4,rfl⟩,g3⟩
end
set_option maxRecDepth 100000
section
theorem a5L(s:Sh):ae Tryz.prog 68 [bh s] (.one (aj (bD s) lim)):=by
 by_cases h:early s
 ·exact Xt s h
 ·exact Xr s h
def FQ:ah:=TS 68 (λs=>.one (aj (bD s) lim)) (λ_=>[]) λs _=>a5L s
def Rf(px py:Int):List It:=[.i px lim,.i py lim]
theorem a0u(e:Ed)(s:Sh)(px py:Int)(ho:e.ok=true)(hb:Bd b27 px py)(hr:0<=s.r/\s.r<=4194304):ae Tryz.prog 153 [aO e lim lim,⟨false,[.fp (Rf px py)]⟩,⟨false,[.fp (bh s).l]⟩] (.one (aN (um e px py s.r))) :=
 ad [Wy] [] [pP ho,pP hb,pP hr] (by kernel_rfl)
end
set_option maxHeartbeats 2000000
set_option maxRecDepth 100000
section
def EH(w:World)(f:FuncId)(cs:Array Value)(n:Nat)(e:Nat->Ed)(P:Nat->Bool):Prop:=(∀args w,(callFunc f args).run Tryz.prog w=.ok (.enter f args) w)/\∀i,i<n->∀W,ac w W->Calls Tryz.prog f (#[fi (e i)]++cs) W λx W'=>x=.returned (.bool (P i))/\ac W W'
theorem a0n(f:FuncId)(c1 c2:Value)(p:Option Addr)(n c:Nat)(e:Nat->Ed)(P:Nat->Bool)(w:World)(hn:n<=1000)(hR:jP w.heap.size w p n e)(hf:EH w f #[c1,c2] n e P) :
  Calls Tryz.prog 213 #[.slice p n c,.func (.func f) #[] #[c1,c2]] w λx w'=>∃z:Int,x=.returned (.int .i64 z)/\Hid (decide (0<=z)=!eh (λi=>!P i) n)/\ac w w':=by
 go_enter Tryz.func213,Tryz.ntmps213;go_wp2;go_loopw [8] (λi wr=>∃k:Nat,i=.int .i64 (k:Int)/\k<=n/\(∀j,j<k->P j=false)/\ac w wr) (λi _=>n-(intOf i).toNat)
 case atStart=>exact⟨0,rfl,Nat.zero_le _,nofun,Below.refl _ _⟩
 case round =>
  obtain⟨k,rfl,hk,hP,hx⟩:=hrel;by_cases hlt:k<n
  ·obtain ⟨g, o, rfl, hg, E0⟩ := hR k hlt;obtain⟨a0,a1,a2,a3,a4,a5,a6⟩:=E0.below hx hg;have hc:=hf.2 k hlt wr hx;have eg:=hf.1;have ix0:0<=(k:Int):=by omega
   have ix2:(k:Int)<(n:Int):=by omega
   have HP:=Lib.hid hP;have HX:=Lib.hid hx;have HF:=Lib.hid hf;have HR:=Lib.hid hR;unfold fi at hc;clear hf hR hP hx E0;have HC:=Lib.hid hc;clear hc;go_wp2_with fail;refine HC.out.mono ?_;rintro e' W1 ⟨rfl,hx1⟩;have hx2:=Lib.hid (ac.step HX.out hx1);clear hx1 HC a0 a1 a2 a3 a4 a5 a6;cases hb:P k with
   | true =>
    have hz:Hid (decide ((0:Int)<=(k:Int))=!eh (λi=>!P i) n):=Lib.hid (by
     have:eh (λi=>!P i) n=false:=by
      cases h:eh (λi=>!P i) n with
      | false=>rfl
      | true=>have:=md.1 h k hlt;rw[hb] at this;cases this
     rw[this];simp)
    go_wp2;go_ret;exact⟨_,rfl,hz,hx2.out⟩
   | false =>
    have HP':Hid (∀j,j<k+1->P j=false):=Lib.hid λj hj=>by
     rcases Nat.lt_or_eq_of_le (Nat.le_of_lt_succ hj) with h|h
     ·exact HP.out j h
     ·rw[h];exact hb
    have wk:IntKind.i64.wrap ((k:Int)+1)=((k+1:Nat):Int):=by rw[wrap_in (by unfold I64;omega)];omega
    go_wp2;exact⟨⟨k+1,by simp,by omega,HP'.out,hx2.out⟩,by simp[intOf];omega⟩
  ·obtain rfl : k = n := by omega
   have ix:¬((k:Int)<(k:Int)):=by omega
   have hz:Hid (decide ((0:Int) <= -1)=!eh (λi=>!P i) k):=Lib.hid (by
    rw[md.2 λj hj=>by rw[hP j hj];rfl];rfl)
   have HX:=Lib.hid hx;clear hf hR hP hx;go_wp2;go_ret;exact⟨_,rfl,hz,HX.out⟩
theorem XO(f:FuncId)(c1 c2:Value)(p:Option Addr)(n c:Nat)(e:Nat->Ed)(P:Nat->Bool)(w:World)(hn:n<=1000)(hR:jP w.heap.size w p n e)(hf:EH w f #[c1,c2] n e P) :
  Calls Tryz.prog 152 #[.slice p n c,.func (.func f) #[] #[c1,c2]] w λx w'=>x=.returned (.bool (!eh (λi=>!P i) n))/\ac w w':=by
 go_enter Tryz.func152,Tryz.ntmps152;have hc:=a0n f c1 c2 p n c e P w hn hR hf;have HI:=Lib.hid hc;clear hc hf hR;go_wp2_with fail;refine HI.out.mono ?_;rintro e' W1 ⟨z,rfl,hz,hx⟩;go_wp2;go_ret;exact⟨by rw[<- hz.out];rfl,hx⟩
end
set_option maxHeartbeats 2000000
set_option maxRecDepth 100000
section
theorem VQ{a:Array Value}(h:a.size=66):∃x0 x1 x2 x3 x4 x5 x6 x7 x8 x9 x10 x11 x12 x13 x14 x15 x16 x17 x18 x19 x20 x21 x22 x23 x24 x25 x26 x27 x28 x29 x30 x31 x32 x33 x34 x35 x36 x37 x38 x39 x40 x41 x42 x43 x44 x45 x46 x47 x48 x49 x50 x51 x52 x53 x54 x55 x56 x57 x58 x59 x60 x61 x62 x63 x64 x65,a=List.toArray (x0::x1::x2::x3::x4::x5::x6::x7::x8::x9::x10::x11::x12::x13::x14::x15::x16::x17::x18::x19::x20::x21::x22::x23::x24::x25::x26::x27::x28::x29::x30::x31::x32::x33::x34::x35::x36::x37::x38::x39::x40::x41::x42::x43::x44::x45::x46::x47::x48::x49::x50::x51::x52::x53::x54::x55::x56::x57::x58::x59::x60::x61::x62::x63::x64::x65::[]):=by
 obtain⟨l⟩:=a;match l,h with|x0::x1::x2::x3::x4::x5::x6::x7::x8::x9::x10::x11::x12::x13::x14::x15::x16::x17::x18::x19::x20::x21::x22::x23::x24::x25::x26::x27::x28::x29::x30::x31::x32::x33::x34::x35::x36::x37::x38::x39::x40::x41::x42::x43::x44::x45::x46::x47::x48::x49::x50::x51::x52::x53::x54::x55::x56::x57::x58::x59::x60::x61::x62::x63::x64::x65::[],_=>exact⟨_,_,_,_,_,_,_,_,_,_,_,_,_,_,_,_,_,_,_,_,_,_,_,_,_,_,_,_,_,_,_,_,_,_,_,_,_,_,_,_,_,_,_,_,_,_,_,_,_,_,_,_,_,_,_,_,_,_,_,_,_,_,_,_,_,_,rfl⟩
def Ia(s:Sh)(px py:Int):Ds:=⟨[(2,.eq (ak 0)),(3,.eq (ak 1))],lU s++[Jt px py]⟩
def O8(s:Sh)(px py:Int)(b:Bool):Ds:=⟨[(45,.eq ⟨false,[.b b]⟩),(2,.eq (ak 0)),(3,.eq (ak 1))],lU s++[Jt px py]⟩
theorem a0q(B2 B3 n c:Nat)(p:Option Addr)(e:Nat->Ed)(b:Bool)(k rr px py:Int)(w:World)(x0 x1 x4 x5 x6 x7 x8 x9 x10 x11 x12 x13 x14 x15 x16 x17 x18 x19 x20 x21 x22 x23 x24 x25 x26 x27 x28 x29 x30 x31 x32 x33 x34 x35 x36 x37 x38 x39 x40 x41 x42 x43 x44 x45 x46 x47 x48 x49 x50 x51 x52 x53 x54 x55 x56 x57 x58 x59 x60 x61 x62 x63 x64 x65:Value)
  (m0:w.cell? ⟨B2,0,none⟩=some (.int .i64 k)) (m1:w.cell? ⟨B2,1,none⟩=some (.slice p n c)) (m2:w.cell? ⟨B2,2,none⟩=some (.int .i64 rr))
  (hC:Calls Tryz.prog 152 #[.slice p n c,.func (.func 153) #[] #[.pointer (some ⟨B3,0,none⟩),.pointer (some ⟨B2,0,none⟩)]] w λx w'=>x=.returned (.bool b)/\ac w w') :
  ((kF 4 (dC Tryz.prog 100)).getD .skip).wp Tryz.prog (λe a W=>e=.normal/\(∃y0 y1 y2:Value,a={ tmps:=List.toArray (x0::x1::.pointer (some ⟨B2,0,none⟩)::.pointer (some ⟨B3,0,none⟩)::x4::x5::x6::x7::x8::x9::x10::x11::x12::x13::x14::x15::x16::x17::x18::x19::x20::x21::x22::x23::x24::x25::x26::x27::x28::x29::x30::x31::x32::x33::x34::x35::x36::x37::x38::x39::x40::x41::y0::y1::y2::.bool b::x46::x47::x48::x49::x50::x51::x52::x53::x54::x55::x56::x57::x58::x59::x60::x61::x62::x63::x64::x65::[]),defers:=[] })/\ac w W) { tmps:=List.toArray (x0::x1::.pointer (some ⟨B2,0,none⟩)::.pointer (some ⟨B3,0,none⟩)::x4::x5::x6::x7::x8::x9::x10::x11::x12::x13::x14::x15::x16::x17::x18::x19::x20::x21::x22::x23::x24::x25::x26::x27::x28::x29::x30::x31::x32::x33::x34::x35::x36::x37::x38::x39::x40::x41::x42::x43::x44::x45::x46::x47::x48::x49::x50::x51::x52::x53::x54::x55::x56::x57::x58::x59::x60::x61::x62::x63::x64::x65::[]),defers:=[] } w:=by
 have hb:dC Tryz.prog 100=(Tryz.f100.body).getD .skip:=by unfold dC;rw[Tryz.func100];rfl
 rw[hb];simp only[Tryz.f100,Option.getD,kF,Nat.reduceEqDiff,reduceIte];have HC:=Lib.hid hC;clear hC;go_wp2_with fail;refine HC.out.mono ?_;rintro x W ⟨rfl,hx⟩;go_wp2;try exact⟨rfl,⟨_,_,_,rfl⟩,hx⟩
theorem shJ{V W W':World}{r:Nat->Nat}{cm:Nat->List Value}{n:Nat}{d d':Ds}{a a':Act}(hJ:J V r cm (bI n d) a W)(hx:ac W W')(hm:d'.m=d.m)(hn:a'.tmps.size=n)(hd:a'.defers=[])(hl:∀x∈d'.l,au V W' r d.m.length x.2.v (a'.tmps.getD x.1 undef)):JJ V (bI n d') a' W':=by
 obtain⟨⟨hM,_⟩,_⟩:=hJ;refine⟨r,cm,⟨?_,hd⟩,hn,λi v hv=>?_⟩
 ·show RM V r cm d'.m W';rw[hm];exact hM.step hx
 ·rcases Tr.sets_get (Tm.get_lt hv).2 with rfl | ⟨x, hx', rfl⟩
  ·trivial
  ·show au V W' r d'.m.length x.v _;rw[hm];exact hl _ hx'
theorem a5w{V W:World}{r:Nat->Nat}{k:Nat}{b:Bool}:au V W r k ⟨false,[.b b]⟩ (.bool b):=⟨[_],⟨[_],[],rfl,rfl,rfl⟩,rfl,λ_=>rfl⟩
theorem a0p(s:Sh)(px py:Int)(g:Good s)(hb:Bd b27 px py):bJ Tryz.prog (bm 100 9) ⟨nF 100,Ia s px py,.nm,O8 s px py (!eh (yC s px py) s.n)⟩:=by
 have el:bm 100 9=(kF 4 (dC Tryz.prog 100)).getD .skip:=by kernel_rfl
 have hnf:nF 100=66:=by kernel_rfl
 rw[el,hnf];rintro V ⟨tm,df⟩ w Q ⟨r,cm,hJ⟩ hQ;obtain⟨⟨hM,hd⟩,hT⟩:=id hJ;obtain rfl:df=[]:=hd;obtain⟨x0,x1,x2,x3,x4,x5,x6,x7,x8,x9,x10,x11,x12,x13,x14,x15,x16,x17,x18,x19,x20,x21,x22,x23,x24,x25,x26,x27,x28,x29,x30,x31,x32,x33,x34,x35,x36,x37,x38,x39,x40,x41,x42,x43,x44,x45,x46,x47,x48,x49,x50,x51,x52,x53,x54,x55,x56,x57,x58,x59,x60,x61,x62,x63,x64,x65,rfl⟩:=VQ (show tm.size=66 from hT.1);have t2:au V w r (bI 66 (Ia s px py)).m.length (ak 0) x2:=hT.2 2 (.one (ak 0)) (by kernel_rfl);have t3:au V w r (bI 66 (Ia s px py)).m.length (ak 1) x3:=hT.2 3 (.one (ak 1)) (by kernel_rfl)
 obtain rfl:x2=.pointer (some ⟨r 0,0,none⟩):=by simpa using t2.scal.2
 obtain rfl:x3=.pointer (some ⟨r 1,0,none⟩):=by simpa using t3.scal.2
 obtain⟨g0,cs0,d0,ec0,rep0,-⟩:=hM.blk 0 ⟨30,(bh s).l⟩ rfl;obtain⟨g1,cs1,d1,ec1,rep1,-⟩:=hM.blk 1 ⟨24,[.i px lim,.i py lim]⟩ rfl;have hx:=hM.ext;obtain⟨_,_,rfl,⟨rfl,ik⟩,_,_,rfl,hro,_,_,rfl,⟨rfl,ir⟩,rfl⟩:=rep0;obtain⟨v,rfl,hrow⟩:=hro;have hrow':=hrow;obtain⟨p,c,e2,h1,h2,h3⟩:=hrow';subst e2;obtain⟨p',c',e3,hnc,hcm,hR⟩:=JW (V:=V) (W:=w) (r:=r) (k:=0) ⟨_,rfl,hrow⟩;cases e3;obtain⟨_,_,rfl,⟨rfl,ix⟩,_,_,rfl,⟨rfl,iy⟩,rfl⟩:=rep1;rw[ec0] at g0;rw[ec1] at g1;have n40:=g.n40
 have rv:∀ {W:World} {l:List It} {cs ds:List Value} {b:Nat} {T:TypeId},W.heap[b]? = some (.cells (cs++ds).toArray T)->aE W l cs->au W W (λ_=>0) 0 ⟨false,[.fp l]⟩ (.pointer (some ⟨b,0,none⟩)):=λ{W l cs ds b T} hg hf=>⟨[_],⟨[_],[],rfl,⟨b,0,_,(T,(0,0)),rfl,hg,Nat.zero_le _,cs,ds,by simp,hf⟩,rfl⟩,rfl,λ_=>rfl⟩
 have hrG:fU (jf V) V 7 s.n (λi=>cV (s.e i)) (.slice p s.n c):=⟨p,c,rfl,h1,h2,λi hi=>by
  obtain⟨g',o,xs,T,k1,k2,k3,cs,d,k4,k5⟩:=h3 i hi;obtain⟨_,_,rfl,q0,_,_,rfl,q1,_,_,rfl,q2,_,_,rfl,q3,_,_,rfl,q4,_,_,rfl,q5,_,_,rfl,q6,rfl⟩:=k5;exact⟨g',o,xs,T,k1,k2,k3,_,d,k4,_,_,rfl,q0,_,_,rfl,q1,_,_,rfl,q2,_,_,rfl,q3,_,_,rfl,q4,_,_,rfl,q5,_,_,rfl,q6,rfl⟩⟩
 have hA:EH w 153 #[.pointer (some ⟨r 1,0,none⟩),.pointer (some ⟨r 0,0,none⟩)] s.n s.e (λi=>um (s.e i) px py s.r):=by
  refine⟨enters_of Tryz.func153 (by kernel_rfl) rfl,λi hi W hW=>?_⟩;have hfok:=a0u (s.e i) s px py (g.ok i hi) hb g.r;obtain⟨g',o,xs,T,k1,k2,k3,cs,d,k4,k5⟩:=h3 i hi;obtain⟨_,_,rfl,⟨rfl,a0⟩,_,_,rfl,⟨rfl,a1⟩,_,_,rfl,⟨rfl,a2⟩,_,_,rfl,⟨rfl,a3⟩,_,_,rfl,⟨rfl,a4⟩,_,_,rfl,⟨rfl,a5⟩,_,_,rfl,⟨rfl,a6⟩,rfl⟩:=k5;have F0:aE V (bh s).l [.int .i64 s.k,.slice p s.n c,.int .i64 s.r]:=⟨[_],_,rfl,⟨rfl,ik⟩,[_],_,rfl,⟨_,rfl,hrG⟩,[_],[],rfl,⟨rfl,ir⟩,rfl⟩;have F1:aE V (Rf px py) [.int .i64 px,.int .i64 py]:=⟨[_],_,rfl,⟨rfl,ix⟩,[_],[],rfl,⟨rfl,iy⟩,rfl⟩;have q0:=rv (aH g0 hW) (F0.ext (ac.step hx hW))
  have q1:=rv (aH g1 hW) (F1.ext (ac.step hx hW));have q2:au W W (λ_=>0) 0 (aO (s.e i) lim lim) (fi (s.e i)):=⟨_,⟨[_],_,rfl,⟨rfl,a0⟩,[_],_,rfl,⟨rfl,a1⟩,[_],_,rfl,⟨rfl,a2⟩,[_],_,rfl,⟨rfl,a3⟩,[_],_,rfl,⟨rfl,a4⟩,[_],_,rfl,⟨rfl,a5⟩,[_],[],rfl,⟨rfl,a6⟩,rfl⟩,rfl,nofun⟩;refine (hfok W [fi (s.e i),.pointer (some ⟨r 1,0,none⟩),.pointer (some ⟨r 0,0,none⟩)] ⟨_,_,rfl,q2,_,_,rfl,q1,_,_,rfl,q0,rfl⟩).mono ?_;rintro x W' ⟨v,rfl,hv,hxx⟩;obtain rfl:v=.bool (um (s.e i) px py s.r):=by simpa using (au.scal hv).1
  exact⟨rfl,hxx⟩
 have hC:=XO _ _ _ p s.n c s.e _ w (by omega) (λi hi=>by obtain⟨g,o,k1,k2,k3⟩:=hR i hi;exact⟨g,o,k1,Nat.lt_of_lt_of_le k2 hx.size,k3.below hx k2⟩) hA
 refine Code.wp_mono ?_ (a0q (r 0) (r 1) s.n c p s.e (!eh (yC s px py) s.n) s.k s.r px py w x0 x1 x4 x5 x6 x7 x8 x9 x10 x11 x12 x13 x14 x15 x16 x17 x18 x19 x20 x21 x22 x23 x24 x25 x26 x27 x28 x29 x30 x31 x32 x33 x34 x35 x36 x37 x38 x39 x40 x41 x42 x43 x44 x45 x46 x47 x48 x49 x50 x51 x52 x53 x54 x55 x56 x57 x58 x59 x60 x61 x62 x63 x64 x65 (by rw[cell_of_row _ _ _ _ _ _ g0];simp) (by rw[cell_of_row _ _ _ _ _ _ g0];simp) (by rw[cell_of_row _ _ _ _ _ _ g0];simp) hC);rintro e a W ⟨rfl,⟨y0,y1,y2,rfl⟩,hxW⟩;refine hQ _ _ (shJ hJ hxW rfl rfl rfl λx hx'=>?_)
 simp only[O8,List.mem_cons,List.not_mem_nil,or_false] at hx';rcases hx' with rfl|rfl|rfl
 ·exact a5w
 ·exact t2.imp (af.ext hxW)
 ·exact t3.imp (af.ext hxW)
end
set_option maxRecDepth 100000
section
def pV:List ah:=[MU,FQ,WF]
def inK(s:Sh)(px py:Int)(j:Nat):Ds:=⟨[(49,.le (aj (j:Int) 2000)),(6,.le (aj (kl s.e px py j) 2000)),(2,.eq (ak 0)),(3,.eq (ak 1)),(47,.eq (uF s)),(48,.eq (oW s.n))],lU s++[Jt px py]⟩
def Ib(s:Sh)(px py:Int):List Pf:=[pR (ak 0),pR (ak 1)]++fk s++Df px py
def ub(s:Sh)(h:bD s=0)(hn:s.n<=1000):List Pf:=[bN s,pP hn,bN s,pF (jF (show ¬bD s≠0 by simpa using h))]
theorem a0v(s:Sh)(px py:Int)(hn:s.n<=1000):ae Tryz.prog 100 [bh s,ew px py lim] (.one (aN (nB s px py))):=by
 by_cases h1:bD s=0;rotate_left
 ·exact ae.bb (show nB s px py=false by unfold nB;rw[if_pos h1]) (ad pV [true] [bN s,pP hn,bN s,pT (gZ h1)] (by kernel_rfl))
 have g:=FV h1;have hI:nB s px py=if oV s px py=false then false else if eh (yC s px py) s.n=false then true else decide (s.k=2)&&decide (kl s.e px py s.n≠0):=by
  unfold nB;rw[if_neg (by simpa using h1)]
 by_cases a0:px<lA s
 ·exact ae.bb (show nB s px py=false by rw[hI,if_pos (by unfold oV jD;simp;omega)]) (ad pV [false,true] (ub s h1 hn++[pT (eu a0)]) (by kernel_rfl))
 by_cases a1:px>lB s
 ·exact ae.bb (show nB s px py=false by rw[hI,if_pos (by unfold oV jD;simp;omega)]) (ad pV [false,false,true] (ub s h1 hn++[pF (aR a0),pT (cL a1)]) (by kernel_rfl))
 by_cases a2:py<oH s
 ·exact ae.bb (show nB s px py=false by rw[hI,if_pos (by unfold oV jD;simp;omega)]) (ad pV [false,false,false,true] (ub s h1 hn++[pF (aR a0),pF (bU a1),pT (eu a2)]) (by kernel_rfl))
 by_cases a3:py>oI s
 ·exact ae.bb (show nB s px py=false by rw[hI,if_pos (by unfold oV jD;simp;omega)]) (ad pV [false,false,false,false,true] (ub s h1 hn++[pF (aR a0),pF (bU a1),pF (aR a2),pT (cL a3)]) (by kernel_rfl))
 have h2:oV s px py=true:=by unfold oV jD;simp;omega
 have hb:=a0o g h2;have h40:=g.n40;have o4:=a0p s px py g hb;rw[hI,if_neg (by simp[h2])];cases h3:eh (yC s px py) s.n with|false =>
  rw[h3] at o4;exact ae.bb (b:=true) (by simp) (cD [] pV _ (LT.cons o4 LT.nil) [false,false,false,false,false] (ub s h1 hn++[pF (aR a0),pF (bU a1),pF (aR a2),pF (bU a3)]++Ib s px py) (by kernel_rfl))|true =>
  rw[h3] at o4;have o:=bW (X:=[]) (K:=pV) (f:=100) (id:=16) (n:=nF 100) s.n (inK s px py) (λ_=>[]) (e:=.ex 0) (d1:=⟨[(6,.le (aj (kl s.e px py s.n) 2000)),(2,.eq (ak 0))],lU s⟩) (by kernel_rfl) (λ_=>by kernel_rfl) (λ_ _=>LT.nil)
   (λk hk => by
    have hok:=g.ok k hk;have ix:0<=(k:Int)/\(k:Int)<s.n:=by omega
    exact⟨[true],[pT (eu ix.2),pP ix,pP hok,pP hb,pI k (by omega),pW s.e px py k (by omega),pR (ak 0),pR (ak 1),pR (uF s),pR (oW s.n)]++fk s++Df px py,by kernel_rfl⟩)
   ⟨[false],[pF (aR (show ¬(s.n:Int)<(s.n:Int) by omega)),⟨kl s.e px py s.n=kl s.e px py s.n,rfl⟩,pR (ak 0)]++fk s,by kernel_rfl⟩ nofun
  by_cases h4:s.k=2
  ·exact ae.bb (b:=kl s.e px py s.n != 0) (by rw[if_neg (by decide),h4,Bool.eq_iff_iff];simp) (cD [] pV _ (LT.cons o4 (LT.cons o LT.nil)) [false,false,false,false,false,true] (ub s h1 hn++[pF (aR a0),pF (bU a1),pF (aR a2),pF (bU a3)]++Ib s px py++[⟨(0:Int)=((0:Nat):Int),rfl⟩,⟨(0:Int)=kl s.e px py 0,rfl⟩,pR (ak 0),pR (ak 1),pR (uF s),pR (oW s.n)]++fk s++Df px py++[pT (mB h4)]) (by kernel_rfl))
  ·exact ae.bb (b:=false) (by rw[if_neg (by decide)];simp[h4]) (cD [] pV _ (LT.cons o4 (LT.cons o LT.nil)) [false,false,false,false,false,false] (ub s h1 hn++[pF (aR a0),pF (bU a1),pF (aR a2),pF (bU a3)]++Ib s px py++[⟨(0:Int)=((0:Nat):Int),rfl⟩,⟨(0:Int)=kl s.e px py 0,rfl⟩,pR (ak 0),pR (ak 1),pR (uF s),pR (oW s.n)]++fk s++Df px py++[pF (kP h4)]) (by kernel_rfl))
def Wl:ah:=a56 100 (λs px py=>.one (aN (nB s px py))) (λs=>[s.n<=1000]) λs px py h=>a0v s px py h.1
end
end Go.Proofs.YtghemgdfmldoeaaGreat
