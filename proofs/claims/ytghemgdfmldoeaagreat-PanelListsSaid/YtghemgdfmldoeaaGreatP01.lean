import Derived.Test.YtghemgdfmldoeaaGreatChecked
import Derived.WalkKit
import Derived.WalkSpells
import Derived.WalkLawsBesides
import Derived.Deep.QuietTactic
import Derived.BigQuiet
import Derived.Lib.Hide
import Derived.Deep.RegionHeld3
set_option linter.unusedVariables false
set_option linter.unusedSimpArgs false
namespace Go.Proofs.YtghemgdfmldoeaaGreat
open Go.RowKit
def val:List Nat->Nat
 | []=>0|x::r=>x+4294967296*val r
def cJ(n:Nat):List Nat :=
 if h:n=0 then [] else (n%4294967296)::cJ (n/4294967296)
termination_by n
decreasing_by omega
def ao(d:List Nat):Prop:=∀x∈d,x<4294967296
theorem ao.nil:ao []:=by intro x h;cases h
theorem ao.cons{x:Nat}{d:List Nat}(hx:x<4294967296)(h:ao d):ao (x::d):=by
 intro y hy;rcases List.mem_cons.1 hy with rfl|hy
 ·exact hx
 ·exact h y hy
theorem ao.head{x:Nat}{d:List Nat}(h:ao (x::d)):x<4294967296:=h x (List.mem_cons_self ..)
theorem ao.tail{x:Nat}{d:List Nat}(h:ao (x::d)):ao d:=λy hy=>h y (List.mem_cons_of_mem _ hy)
theorem ao.append{a b:List Nat}(ha:ao a)(hb:ao b):ao (a++b):=by
 intro x hx;rcases List.mem_append.1 hx with h|h
 ·exact ha x h
 ·exact hb x h
theorem ao.get{d:List Nat}(h:ao d)(i:Nat)(hi:i<d.length):d[i]<4294967296:=h _ (List.getElem_mem hi)
theorem ao.getD{d:List Nat}(h:ao d)(i:Nat):d.getD i 0<4294967296:=by
 rw[List.getD_eq_getElem?_getD];by_cases hi:i<d.length
 ·rw[List.getElem?_eq_getElem hi];exact h.get i hi
 ·rw[List.getElem?_eq_none (by omega)];simp
theorem ao.take{d:List Nat}(h:ao d)(n:Nat):ao (d.take n):=λx hx=>h x (List.mem_of_mem_take hx)
theorem ao.drop{d:List Nat}(h:ao d)(n:Nat):ao (d.drop n):=λx hx=>h x (List.mem_of_mem_drop hx)
theorem K5:val []=0:=rfl
theorem jL(x:Nat)(d:List Nat):val (x::d)=x+4294967296*val d:=rfl
theorem val_append(a b:List Nat):val (a++b)=val a+4294967296 ^ a.length*val b:=by
 induction a with|nil=>simp[val]|cons x a ih =>
  simp only[List.cons_append,jL,ih,List.length_cons,Nat.pow_succ];rw[Nat.mul_add,Nat.add_assoc];congr 2;rw[<- Nat.mul_assoc,Nat.mul_comm 4294967296]
theorem ip{d:List Nat}(h:ao d):val d<4294967296 ^ d.length:=by
 induction d with|nil=>simp[val]|cons x d ih =>
  have h1:=ih h.tail;have h2:=h.head;rw[jL,List.length_cons,Nat.pow_succ];generalize 4294967296 ^ d.length=p at *;omega
theorem a6X(n:Nat):val (List.replicate n 0)=0:=by
 induction n with|zero=>rfl|succ n ih=>rw[List.replicate_succ,jL,ih]
theorem ji:cJ 0=[]:=by rw[cJ];simp
theorem rL{n:Nat}(h:n≠0):cJ n=(n%4294967296)::cJ (n/4294967296):=by rw[cJ];simp[h]
theorem xc(n:Nat):val (cJ n)=n:=by
 induction n using Nat.strongRecOn with|ind n ih =>
  by_cases h:n=0
  ·subst h;rw[ji];rfl
  ·rw[rL h,jL,ih (n/4294967296) (by omega)];omega
theorem yn(n:Nat):ao (cJ n):=by
 induction n using Nat.strongRecOn with|ind n ih =>
  by_cases h:n=0
  ·subst h;rw[ji];exact ao.nil
  ·rw[rL h];exact ao.cons (by omega) (ih (n/4294967296) (by omega))
def ee(d:List Nat):Prop:=∀h:d ≠ [],d.getLast h≠0
theorem ee.nil:ee []:=λh=>absurd rfl h
theorem Uj(n:Nat):ee (cJ n):=by
 induction n using Nat.strongRecOn with|ind n ih =>
  by_cases h:n=0
  ·subst h;rw[ji];exact ee.nil
  ·rw [rL h];intro hne;by_cases h2:n/4294967296=0
   ·simp only[h2,ji,List.getLast_singleton];omega
   ·have h3 : cJ (n / 4294967296) ≠ [] := by rw [rL h2]; simp
    rw[List.getLast_cons h3];exact ih _ (by omega) h3
theorem ee.tail{x:Nat}{d:List Nat}(h:ee (x::d)):ee d:=by
 intro hne;have:=h (by simp);rwa [List.getLast_cons hne] at this
theorem BD{d:List Nat}(h:ao d)(ht:ee d):cJ (val d)=d:=by
 induction d with|nil=>exact ji|cons x d ih =>
  have hx:=h.head;have h0:val (x::d)≠0:=by
   intro e;rw[jL] at e;have hv:val d=0:=by omega
   have hd:cJ (val d)=d:=ih h.tail ht.tail;rw[hv,ji] at hd;subst hd;exact ht (by simp) (by simp;omega)
  rw[rL h0,jL];congr 1
  ·omega
  ·rw [show (x + 4294967296 * val d) / 4294967296 = val d by omega];exact ih h.tail ht.tail
theorem tG(n k:Nat):(cJ n).length<=k <-> n<4294967296 ^ k:=by
 induction k generalizing n with
 | zero =>
  by_cases h:n=0
  ·subst h;simp[ji]
  ·rw[rL h];simp;omega
 | succ k ih =>
  by_cases h:n=0
  ·subst h;rw[ji];simp;exact Nat.pow_pos (by omega)
  ·rw[rL h,List.length_cons,Nat.pow_succ,Nat.succ_le_succ_iff,ih,Nat.div_lt_iff_lt_mul (by omega)]
theorem yo{n:Nat}:cJ n=[] <-> n=0:=by
 constructor
 ·intro h;have:=xc n;rw[h] at this;exact this.symm
 ·rintro rfl;exact ji
def kj(d:List Nat):List Nat:=cJ (val d)
theorem K7(d:List Nat)(k:Nat)(hk:k<=d.length):val d=val (d.take k)+4294967296 ^ k*val (d.drop k):=by
 conv=>lhs;rw[<- List.take_append_drop k d,val_append]
 rw[List.length_take,Nat.min_eq_left hk]
theorem UA{a b:List Nat}(ha:ao a)(hl:a.length=b.length)(k:Nat)(hk:k<a.length)(hkb:k<b.length)
  (htop:a.drop (k+1)=b.drop (k+1)) (h:a[k]<b[k]):val a<val b:=by
 rw[K7 a k (by omega),K7 b k (by omega),List.drop_eq_getElem_cons hk,List.drop_eq_getElem_cons hkb,htop,jL,jL];have h1:=ip (ha.take k);rw[List.length_take,Nat.min_eq_left (by omega)] at h1;generalize val (b.drop (k+1))=t;generalize 4294967296 ^ k=p at *;generalize val (a.take k)=u at *;generalize val (b.take k)=v at *;have h2:p*(a[k]+1+4294967296*t)<=p*(b[k]+4294967296*t):=Nat.mul_le_mul_left _ (by omega);have h3:p*(a[k]+1+4294967296*t)=p*(a[k]+4294967296*t)+p:=by
  rw[show a[k]+1+4294967296*t=(a[k]+4294967296*t)+1 by omega,Nat.mul_add,Nat.mul_one]
 omega
theorem K4{a b:List Nat}(ha:ao a)(hb:ee b)(h:a.length<b.length):val a<val b:=by
 have h1:=ip ha;rcases List.eq_nil_or_concat b with rfl|⟨c,x,rfl⟩
 ·simp at h
 ·have hx : x ≠ 0 := by have := hb (by simp); simpa using this
  rw[List.concat_eq_append,val_append];have h2:(4294967296:Nat) ^ a.length<=4294967296 ^ c.length:=Nat.pow_le_pow_right (by omega) (by simp at h;omega);have h3:4294967296 ^ c.length*1<=4294967296 ^ c.length*val [x]:=Nat.mul_le_mul_left _ (by simp[val];omega);omega
def ni(m n:Nat):Int:=if m<n then -1 else if m=n then 0 else 1
def cmpL(a b:List Nat):Int:=if a.length<b.length then -1 else if b.length<a.length then 1 else ni (val a) (val b)
theorem Bw{a b:List Nat}(ha:ao a)(hb:ao b)(ta:ee a)(tb:ee b):cmpL a b=ni (val a) (val b):=by
 unfold cmpL;split
 ·rename_i h;have:=K4 ha tb h;simp[ni,this]
 ·split
  ·rename_i h;have:=K4 hb ta h;unfold ni;rw[if_neg (by omega),if_neg (by omega)]
  ·rfl
structure Nm where
 neg:Bool
 d:List Nat
 deriving DecidableEq
def Nm.right(a:Nm):Bool:=if a.d.length=0 then !a.neg else decide (a.d.length<=64)&&decide (a.d.getLastD 0≠0)
def Nm.z(a:Nm):Int:=if a.neg then -(val a.d:Int) else val a.d
def ai(z:Int):Nm:=⟨decide (z<0),cJ z.natAbs⟩
def zero:Nm:=⟨false,[]⟩
def small(z:Int):Bool:=decide (z.natAbs<4294967296 ^ 64)
def fit(z:Int):Nm×Bool:=if small z then (ai z,true) else (zero,false)
theorem O3{d:List Nat}(h:d ≠ []):d.getLastD 0=d.getLast h:=by
 cases d with|nil=>exact absurd rfl h|cons x d=>simp[List.getLastD]
theorem Nm.right_iff(a:Nm):a.right=true <-> (a.d.length<=64/\ee a.d/\(a.d=[]->a.neg=false)):=by
 unfold Nm.right;by_cases h:a.d=[]
 ·simp[h,ee]
 ·have h1 : a.d.length ≠ 0 := by simpa using h
  rw[if_neg h1];simp only[Bool.and_eq_true,decide_eq_true_eq,O3 h];constructor
  ·rintro⟨h2,h3⟩;exact⟨h2,λ_=>h3,λe=>absurd e h⟩
  ·rintro⟨h2,h3,_⟩;exact⟨h2,h3 h⟩
theorem ic{z:Int}(h:small z=true):(ai z).right=true:=by
 rw[Nm.right_iff];simp only[small,decide_eq_true_eq] at h;refine⟨(tG _ _).2 h,Uj _,?_⟩;intro e;have:=yo.1 e;simp only[ai,decide_eq_false_iff_not];omega
theorem fj(z:Int):(ai z).z=z:=by
 unfold Nm.z ai;simp only[xc];split
 ·rename_i h;simp only[decide_eq_true_eq] at h;omega
 ·rename_i h;simp only[decide_eq_true_eq] at h;omega
theorem IV{a:Nm}(hd:ao a.d)(h:a.right=true):ai a.z=a:=by
 obtain⟨_,ht,hn⟩:=a.right_iff.1 h;have hv:=BD hd ht;obtain⟨neg,d⟩:=a;simp only[Nm.z,ai] at *;cases neg with|false=>simp only[Bool.false_eq_true,↓reduceIte,Int.natAbs_natCast,hv,Nm.mk.injEq,and_true];simp|true =>
  have h0:val d≠0:=by
   intro e;rw[e,ji] at hv;have:=hn hv.symm;simp at this
  simp only[↓reduceIte,Int.natAbs_neg,Int.natAbs_natCast,hv,Nm.mk.injEq,and_true,decide_eq_true_eq];omega
theorem a6i{a:Nm}(hd:ao a.d)(h:a.right=true):small a.z=true:=by
 have h1:=ip hd;have h2:=(a.right_iff.1 h).1;have h3:(4294967296:Nat) ^ a.d.length<=4294967296 ^ 64:=Nat.pow_le_pow_right (by omega) h2;have h4:a.z.natAbs=val a.d:=by unfold Nm.z;split<;>omega
 unfold small;rw[h4,decide_eq_true_eq];omega
def tq(a b:Nm):Nm×Bool:=if a.right&&b.right then fit (a.z+b.z) else (zero,false)
def s7(a b:Nm):Nm×Bool:=if a.right&&b.right then fit (a.z-b.z) else (zero,false)
def jE(a b:Nm):Nm×Bool:=if a.right&&b.right then fit (a.z*b.z) else (zero,false)
def eP(a b:Int):Int:=if a<b then -1 else if a=b then 0 else 1
def ej(a b:Nm):Int:=if a.right&&b.right then eP a.z b.z else 0
def gY(neg:Bool)(d:List Nat):Nm×Bool:=if 64<(kj d).length then (zero,false) else if kj d=[] then (zero,true) else (⟨neg,kj d⟩,true)
theorem sw(neg:Bool)(d:List Nat):gY neg d=fit (if neg then -(val d:Int) else val d):=by
 unfold gY fit small kj;have hl:=tG (val d) 64;generalize (4294967296:Nat) ^ 64=q at *;have e:(if neg=true then -(val d:Int) else (val d:Int)).natAbs=val d:=by split<;>omega
 rw[e];by_cases h:val d<q
 ·rw [if_neg (by rw [<- hl] at h; omega)];simp only[h,decide_true,↓reduceIte];by_cases h0:val d=0
  ·rw [if_pos (yo.2 h0)];simp only[h0,ai,zero];cases neg<;>simp[ji]
  ·rw [if_neg (λe => h0 (yo.1 e))];simp only[ai,e];cases neg
   ·simp
   ·simp only [↓reduceIte, Prod.mk.injEq, Nm.mk.injEq, and_true];symm;simp only[decide_eq_true_eq];omega
 ·rw [if_pos (by rw [<- hl] at h; omega)];simp[h]
abbrev ac(w w':World):Prop:=Below w.heap.size w w'
theorem ac.step{w w1 w2:World}(h:ac w w1)(k:ac w1 w2):ac w w2:=h.trans (k.mono h.size)
theorem Below.drewN{B:Nat}{a w:World}(h:Below B a w)(n:Nat):Below B a (w.drewN n):=⟨h.os,h.tape,h.output,h.size,h.block⟩
theorem ag{p:Prop}(h:p:=by (repeat (first|exact Below.refl _ _|assumption|refine Below.drewN ?_ _|refine Below.drew ?_|refine Below.setCell ?_ (by first|exact Nat.le_refl _|(simp;done)|(simp;omega)|omega) _|refine Below.alloc ?_ (by first|exact Nat.le_refl _|(simp;done)|(simp;omega)|omega) _))):p:=h
theorem CV{p:Prop}(h:p:=by first|omega|(simp;done)|(simp;omega)):p:=h
theorem oR{w w1:World}(hx:ac w w1)(b:Nat)(h:b<w.heap.size:=by first|omega|(simp;done)|(simp;omega)):b<w1.heap.size/\(∀o,w1.cell? ⟨b,o,none⟩=w.cell? ⟨b,o,none⟩)/\∀o,w1.frozen? ⟨b,o,none⟩=w.frozen? ⟨b,o,none⟩ :=
 ⟨Nat.lt_of_lt_of_le h hx.size,λo=>hx.cell (p:=⟨b,o,none⟩) h,λo=>hx.frozen (p:=⟨b,o,none⟩) h⟩
theorem vM{w w1:World}(hx:ac w w1)(b:Nat)(h:b+1<=w.heap.size:=by first|omega|(simp;done)|(simp;omega)):b+1<=w1.heap.size/\(b<w1.heap.size/\(∀o,w1.cell? ⟨b,o,none⟩=w.cell? ⟨b,o,none⟩)/\∀o,w1.frozen? ⟨b,o,none⟩=w.frozen? ⟨b,o,none⟩) :=
 ⟨Nat.le_trans h hx.size,oR hx b (by omega)⟩
theorem lG{w w1:World}(hx:ac w w1)(b:Nat)(h:b+2<=w.heap.size:=by first|omega|(simp;done)|(simp;omega)):b+2<=w1.heap.size/\(b<w1.heap.size/\(∀o,w1.cell? ⟨b,o,none⟩=w.cell? ⟨b,o,none⟩)/\∀o,w1.frozen? ⟨b,o,none⟩=w.frozen? ⟨b,o,none⟩)/\(b+1<w1.heap.size/\(∀o,w1.cell? ⟨b+1,o,none⟩=w.cell? ⟨b+1,o,none⟩)/\∀o,w1.frozen? ⟨b+1,o,none⟩=w.frozen? ⟨b+1,o,none⟩) :=
 ⟨Nat.le_trans h hx.size,oR hx b (by omega),oR hx (b+1) (by omega)⟩
theorem cM{w w1:World}(hx:ac w w1)(b:Nat)(h:b+3<=w.heap.size:=by first|omega|(simp;done)|(simp;omega)):b+3<=w1.heap.size/\(b<w1.heap.size/\(∀o,w1.cell? ⟨b,o,none⟩=w.cell? ⟨b,o,none⟩)/\∀o,w1.frozen? ⟨b,o,none⟩=w.frozen? ⟨b,o,none⟩)/\(b+1<w1.heap.size/\(∀o,w1.cell? ⟨b+1,o,none⟩=w.cell? ⟨b+1,o,none⟩)/\∀o,w1.frozen? ⟨b+1,o,none⟩=w.frozen? ⟨b+1,o,none⟩)/\(b+2<w1.heap.size/\(∀o,w1.cell? ⟨b+2,o,none⟩=w.cell? ⟨b+2,o,none⟩)/\∀o,w1.frozen? ⟨b+2,o,none⟩=w.frozen? ⟨b+2,o,none⟩) :=
 ⟨Nat.le_trans h hx.size,oR hx b (by omega),oR hx (b+1) (by omega),oR hx (b+2) (by omega)⟩
theorem jl{w w1:World}(hx:ac w w1)(b:Nat)(h:b+4<=w.heap.size:=by first|omega|(simp;done)|(simp;omega)):b+4<=w1.heap.size/\(b<w1.heap.size/\(∀o,w1.cell? ⟨b,o,none⟩=w.cell? ⟨b,o,none⟩)/\∀o,w1.frozen? ⟨b,o,none⟩=w.frozen? ⟨b,o,none⟩)/\(b+1<w1.heap.size/\(∀o,w1.cell? ⟨b+1,o,none⟩=w.cell? ⟨b+1,o,none⟩)/\∀o,w1.frozen? ⟨b+1,o,none⟩=w.frozen? ⟨b+1,o,none⟩)/\(b+2<w1.heap.size/\(∀o,w1.cell? ⟨b+2,o,none⟩=w.cell? ⟨b+2,o,none⟩)/\∀o,w1.frozen? ⟨b+2,o,none⟩=w.frozen? ⟨b+2,o,none⟩)/\(b+3<w1.heap.size/\(∀o,w1.cell? ⟨b+3,o,none⟩=w.cell? ⟨b+3,o,none⟩)/\∀o,w1.frozen? ⟨b+3,o,none⟩=w.frozen? ⟨b+3,o,none⟩) :=
 ⟨Nat.le_trans h hx.size,oR hx b (by omega),oR hx (b+1) (by omega),oR hx (b+2) (by omega),oR hx (b+3) (by omega)⟩
def Row(w:World)(p:Option Addr)(c:Nat)(d:List Nat):Prop :=
 d.length<=c/\c<=9223372036854775807/\ao d /\
 (0<d.length->∃b o,p=some ⟨b,o,none⟩/\b<w.heap.size/\∀i,i<d.length->w.cell? ⟨b,o+i,none⟩=some (.int .u32 ((d[i]?.getD 0:Nat):Int)))
theorem Row.dig{w:World}{p:Option Addr}{c:Nat}{d:List Nat}(h:Row w p c d):ao d:=h.2.2.1
theorem Row.le{w:World}{p:Option Addr}{c:Nat}{d:List Nat}(h:Row w p c d):d.length<=c:=h.1
theorem Row.max{w:World}{p:Option Addr}{c:Nat}{d:List Nat}(h:Row w p c d):c<=9223372036854775807:=h.2.1
theorem Row.at{w:World}{p:Option Addr}{c:Nat}{d:List Nat}(h:Row w p c d)(h0:0<d.length) :
  ∃b o,p=some ⟨b,o,none⟩/\b<w.heap.size/\∀i,i<d.length->w.cell? ⟨b,o+i,none⟩=some (.int .u32 ((d[i]?.getD 0:Nat):Int)):=h.2.2.2 h0
theorem Row.ext{w w':World}{p:Option Addr}{c:Nat}{d:List Nat}(h:Row w p c d)(hb:ac w w'):Row w' p c d:=by
 refine⟨h.1,h.2.1,h.2.2.1,λh0=>?_⟩;obtain⟨b,o,hp,hlt,hc⟩:=h.2.2.2 h0;refine⟨b,o,hp,Nat.lt_of_lt_of_le hlt hb.size,λi hi=>?_⟩;rw[hb.cell (p:=⟨b,o+i,none⟩) hlt];exact hc i hi
theorem Row.below{w w':World}{p:Option Addr}{c B:Nat}{d:List Nat}(h:Row w p c d)(hB:w.heap.size<=B)(hb:Below B w w'):Row w' p c d :=
 h.ext (hb.mono hB)
theorem Row.nil(w:World):Row w none 0 []:=⟨by simp,by omega,ao.nil,by simp⟩
theorem VS{w w1:World}(hb:ac w w1):(∀b o,b<w.heap.size->w1.cell? ⟨b,o,none⟩=w.cell? ⟨b,o,none⟩) /\
  (∀b o,b<w.heap.size->w1.frozen? ⟨b,o,none⟩=w.frozen? ⟨b,o,none⟩) :=
 ⟨λb o h=>hb.cell (p:=⟨b,o,none⟩) h,λb o h=>hb.frozen (p:=⟨b,o,none⟩) h⟩
set_option maxHeartbeats 1000000
section
theorem kS{d:List Nat}{k:Nat}(h:k<d.length):d[k]?.getD 0=d[k]:=by rw[List.getElem?_eq_getElem h];rfl
theorem YS{a b:List Nat}{k:Nat}(hl:a.length=b.length)(h:a.drop (k+1)=b.drop (k+1))(hk:a[k]?.getD 0=b[k]?.getD 0):a.drop k=b.drop k:=by
 by_cases hlt:k<a.length
 ·have hlt2 : k < b.length := by omega
  rw[List.drop_eq_getElem_cons hlt,List.drop_eq_getElem_cons hlt2,h];congr 1;rw[kS hlt,kS hlt2] at hk;exact hk
 ·rw[List.drop_eq_nil_of_le (by omega),List.drop_eq_nil_of_le (by omega)]
theorem XB{a b:List Nat}(ha:ao a)(hl:a.length=b.length)(k:Nat)(hk:k<a.length)
  (htop:a.drop (k+1)=b.drop (k+1)) (h:a[k]?.getD 0<b[k]?.getD 0):cmpL a b = -1:=by
 have hlt2:k<b.length:=by omega
 rw[kS hk,kS hlt2] at h;have:=UA ha hl k hk hlt2 htop h;unfold cmpL ni;rw[if_neg (by omega),if_neg (by omega),if_pos this]
theorem XA{a b:List Nat}(hb:ao b)(hl:a.length=b.length)(k:Nat)(hk:k<a.length)
  (htop:a.drop (k+1)=b.drop (k+1)) (h:b[k]?.getD 0<a[k]?.getD 0):cmpL a b=1:=by
 have hlt2:k<b.length:=by omega
 rw[kS hk,kS hlt2] at h;have:=UA hb hl.symm k hlt2 hk htop.symm h;unfold cmpL ni;rw[if_neg (by omega),if_neg (by omega),if_neg (by omega),if_neg (by omega)]
theorem Xz{a b:List Nat}(hl:a.length=b.length)(h:a.drop 0=b.drop 0):cmpL a b=0:=by
 have:a=b:=by simpa using h
 subst this;simp[cmpL,ni]
theorem a11(a b:List Nat)(pa pb:Option Addr)(ca cb:Nat)(w:World)(ha:Row w pa ca a)(hb:Row w pb cb b) :
  Calls Tryz.prog 210 #[.slice pa a.length ca,.slice pb b.length cb] w λe w'=>e=.returned (.int .i64 (cmpL a b))/\ac w w':=by
 have hla:=ha.le;have hma:=ha.max;have hlb:=hb.le;have hmb:=hb.max;by_cases hne:a.length=b.length
 ·have hf : ((a.length : Int) != (b.length : Int)) = false := by simp [hne]
  have Hne:=Lib.hid hne;clear hne;go_enter Tryz.func210,Tryz.ntmps210;go_wp2;go_loopw [5] (λi wr=>∃k:Nat,k<=a.length/\i=.int .i64 ((k:Int)-1)/\a.drop k=b.drop k/\ac w wr) (λi _=>(intOf i+1).toNat)
  case atStart=>exact⟨a.length,Nat.le_refl _,rfl,by rw[List.drop_eq_nil_of_le (Nat.le_refl _),List.drop_eq_nil_of_le (by rw[Hne.out];exact Nat.le_refl _)],Below.refl _ _⟩
  case round =>
   obtain⟨k,hk,rfl,htop,hx⟩:=hrel;have Htop:=Lib.hid htop;clear htop;cases k with
   | zero =>
    have e:(((0:Nat):Int)-1) = -1:=by omega
    rw[e];clear e;go_wp2;go_ret;exact⟨by rw[Xz Hne.out Htop.out];rfl,hx⟩
   | succ k =>
    obtain⟨ba,oa,rfl,hba,hca⟩:=ha.at (by omega);obtain⟨bb,ob,rfl,hbb,hcb⟩:=hb.at (by have:=Hne.out;omega);have e:(((k+1:Nat):Int)-1)=(k:Int):=by omega
    rw[e];clear e;have hkb:k<b.length:=by have:=Hne.out;omega
    have ca1:=hca k (by omega);have cb1:=hcb k hkb;have ca2:wr.cell? ⟨ba,oa+k,none⟩=some (.int .u32 ((a[k]?.getD 0:Nat):Int)):=(hx.cell (p:=⟨ba,oa+k,none⟩) hba).trans ca1;have cb2:wr.cell? ⟨bb,ob+k,none⟩=some (.int .u32 ((b[k]?.getD 0:Nat):Int)):=(hx.cell (p:=⟨bb,ob+k,none⟩) hbb).trans cb1;clear hca hcb ca1 cb1;obtain⟨x,X⟩:∃x,Hid (a[k]?.getD 0=x):=⟨_,rfl⟩;obtain⟨y,Y⟩:∃y,Hid (b[k]?.getD 0=y):=⟨_,rfl⟩;rw[X.out] at ca2;rw[Y.out] at cb2;go_wp2;go_quiet (fail);go_wp2
    ·go_quiet (fail);go_wp2
     ·have h : x < y := by assumption
      go_ret;refine⟨by rw[XB ha.dig Hne.out k (by omega) Htop.out (by rw[X.out,Y.out];exact h)];rfl,?_⟩;exact Below.drewN (Below.drewN hx _) _
     ·have h:y<x:=by
       have h1:¬x<y:=by assumption
       have h2:((x:Int) != y)=true:=by assumption
       have h3:(x:Int)≠y:=by simpa using h2
       omega
      go_ret;refine⟨by rw[XA hb.dig Hne.out k (by omega) Htop.out (by rw[X.out,Y.out];exact h)];rfl,?_⟩;exact Below.drewN (Below.drewN hx _) _
    ·have h:x=y:=by
      have h2:((x:Int) != y)=false:=by assumption
      have h3:(x:Int)=y:=by simpa using h2
      omega
     exact⟨⟨k,by omega,rfl,YS Hne.out Htop.out (by rw[X.out,Y.out];exact h),Below.drewN hx _⟩,by simp[intOf]⟩
 ·have hf : ((a.length : Int) != (b.length : Int)) = true := by rw [bne_iff_ne]; omega
  by_cases hlt:a.length<b.length
  ·go_enter Tryz.func210, Tryz.ntmps210;go_wp2;go_ret;exact⟨by unfold cmpL;rw[if_pos hlt];rfl,Below.refl _ _⟩
  ·have hgt : b.length < a.length := by omega
   go_enter Tryz.func210,Tryz.ntmps210;go_wp2;go_ret;exact⟨by unfold cmpL;rw[if_neg hlt,if_pos hgt];rfl,Below.refl _ _⟩
theorem uq(a b:List Nat)(pa pb:Option Addr)(la ca lb cb:Nat)(w:World)(ha:Row w pa ca a)(hb:Row w pb cb b)(hla:la=a.length)(hlb:lb=b.length) :
  Calls Tryz.prog 210 #[.slice pa la ca,.slice pb lb cb] w λe w'=>e=.returned (.int .i64 (cmpL a b))/\ac w w':=by
 subst hla hlb;exact a11 a b pa pb ca cb w ha hb
end
set_option maxHeartbeats 1000000
set_option maxRecDepth 100000
section
def NR(w:World)(n:Bool)(p:Option Addr)(l c:Nat)(a:Nm):Prop:=n=a.neg/\l=a.d.length/\Row w p c a.d
def New(w:World)(p:Option Addr):Prop:=∀a,p=some a->w.heap.size<=a.block
theorem NR.ext{w w':World}{n:Bool}{p:Option Addr}{l c:Nat}{a:Nm}(h:NR w n p l c a)(hb:ac w w'):NR w' n p l c a:=⟨h.1,h.2.1,h.2.2.ext hb⟩
theorem NR.alloc{w:World}{n:Bool}{p:Option Addr}{l c:Nat}{a:Nm}(h:NR w n p l c a)(o:Obj):NR (w.alloc o) n p l c a:=⟨h.1,h.2.1,h.2.2.ext ((Below.refl _ _).alloc (Nat.le_refl _) _)⟩
theorem New.none(w:World):New w none:=λa h=>by cases h
theorem Row.set{w w0:World}{p:Option Addr}{c:Nat}{d:List Nat}(h:Row w p c d)(hn:New w0 p)(a:Addr)(ha:a.block<w0.heap.size)(v:Value):Row (w.setCell a v) p c d:=by
 refine⟨h.1,h.2.1,h.2.2.1,λh0=>?_⟩;obtain⟨b,o,hp,hlt,hc⟩:=h.2.2.2 h0;refine⟨b,o,hp,by simpa[World.setCell] using hlt,λi hi=>?_⟩;have hb:=hn _ hp;rw[<- hc i hi];exact World.cell?_of_block (Below.heap_setCell _ _ _ _ (by simp at hb ⊢;omega))
theorem Row.alloc{w:World}{p:Option Addr}{c:Nat}{d:List Nat}(h:Row w p c d)(o:Obj):Row (w.alloc o) p c d:=h.ext ((Below.refl _ _).alloc (Nat.le_refl _) _)
theorem Row.drewN{w:World}{p:Option Addr}{c:Nat}{d:List Nat}(h:Row w p c d)(n:Nat):Row (w.drewN n) p c d:=h.ext (Below.drewN (Below.refl _ _) _)
theorem Row.drew{w:World}{p:Option Addr}{c:Nat}{d:List Nat}(h:Row w p c d):Row w.drew p c d:=h.ext (Below.refl _ _).drew
theorem New.mono{w w':World}{p:Option Addr}(h:New w' p)(hb:w.heap.size<=w'.heap.size):New w p:=λa ha=>Nat.le_trans hb (h a ha)
def sT(neg:Bool)(d:List Nat):Bool:=(Nm.mk neg d).right
theorem Su(neg:Bool)(d:List Nat)(h:d.length=0):sT neg d=!neg:=by simp[sT,Nm.right,h]
theorem Sr(neg:Bool)(d:List Nat)(h:64<d.length):sT neg d=false:=by
 have h1:d.length≠0:=by omega
 have h2:¬d.length<=64:=by omega
 simp[sT,Nm.right,h1,h2]
theorem Z2(d:List Nat)(h:0<d.length):d.getLastD 0=d[d.length-1]?.getD 0:=by
 have hne:d ≠ []:=by intro e;subst e;simp at h
 rw[O3 hne,List.getLast_eq_getElem,kS (by omega)]
theorem Ss(neg:Bool)(d:List Nat)(h:0<d.length)(h2:d.length<=64)(x:Nat)(hx:d[d.length-1]?.getD 0=x):sT neg d=((x:Int) != 0):=by
 have h1:d.length≠0:=by omega
 have h3:d.getLastD 0=x:=by rw[Z2 d h,hx]
 rw[Bool.eq_iff_iff];simp only[sT,Nm.right,h1,↓reduceIte,h2,decide_true,Bool.true_and,h3,ne_eq,decide_eq_true_eq,bne_iff_ne];omega
theorem c9(a:Nm)(n:Bool)(p:Option Addr)(l c:Nat)(w:World)(h:NR w n p l c a) :
  Calls Tryz.prog 138 #[.agg #[.bool n,.slice p l c]] w λe w'=>e=.returned (.bool a.right)/\ac w w':=by
 obtain⟨hn,hl0,hr⟩:=h;subst hn hl0;obtain⟨neg,d⟩:=a;show Calls _ _ #[.agg #[.bool neg,.slice p d.length c]] w λe w'=>e=.returned (.bool (sT neg d))/\ac w w'
 replace hr:Row w p c d:=hr;have hl:=hr.le;have hm:=hr.max;by_cases h0:d.length=0
 ·have hf : ((d.length : Int) == 0) = true := by simp [h0]
  have H0:=Lib.hid h0;clear h0 hr;go_enter Tryz.func138,Tryz.ntmps138;go_wp2;go_ret;exact⟨by rw[Su _ _ H0.out];rfl,(Below.refl _ _).alloc (Nat.le_refl _) _⟩
 ·have h1 : 0 < d.length := by omega
  have hf:((d.length:Int)==0)=false:=by rw[beq_eq_false_iff_ne];omega
  obtain⟨b,o,rfl,hb,hc⟩:=hr.at h1;have hc1:=hc (d.length-1) (by omega);obtain⟨x,X⟩:∃x,Hid (d[d.length-1]?.getD 0=x):=⟨_,rfl⟩;rw[X.out] at hc1;clear hc h0 hr;by_cases h2:d.length<=64
  ·have hd : decide ((d.length : Int) <= 64) = true := decide_eq_true (by omega);go_enter Tryz.func138,Tryz.ntmps138;go_wp2;go_ret;exact⟨by rw[Ss _ _ h1 h2 x X.out];rfl,(Below.refl _ _).alloc (Nat.le_refl _) _⟩
  ·have hd : decide ((d.length : Int) <= 64) = false := decide_eq_false (by omega);go_enter Tryz.func138,Tryz.ntmps138;go_wp2;go_ret;exact⟨by rw[Sr _ _ (by omega)];rfl,(Below.refl _ _).alloc (Nat.le_refl _) _⟩
theorem a3W(a:Nm)(n:Bool)(p:Option Addr)(l c:Nat)(w:World)(h:NR w n p l c a) :
  Calls Tryz.prog 159 #[.agg #[.bool n,.slice p l c]] w λe w'=>e=.returned (.bool a.right)/\ac w w':=by
 obtain⟨hn,hl0,hr⟩:=h;subst hn hl0;obtain⟨neg,d⟩:=a;show Calls _ _ #[.agg #[.bool neg,.slice p d.length c]] w λe w'=>e=.returned (.bool (sT neg d))/\ac w w'
 replace hr:Row w p c d:=hr;have hl:=hr.le;have hm:=hr.max;by_cases h0:d.length=0
 ·have hf : ((d.length : Int) == 0) = true := by simp [h0]
  have hd:decide ((d.length:Int)<=64)=true:=decide_eq_true (by omega);have hg:decide (0<(d.length:Int))=false:=decide_eq_false (by omega);have H0:=Lib.hid h0;have hle:d.length<=0:=by omega
  clear h0 hr;have hres:=Su neg d H0.out;have Hres:=Lib.hid hres;clear hres;cases neg;all_goals
   go_enter Tryz.func159,Tryz.ntmps159;go_wp2;go_ret;exact⟨by rw[Hres.out];rfl,(Below.refl _ _).alloc (Nat.le_refl _) _⟩
 ·have h1 : 0 < d.length := by omega
  have hf:((d.length:Int)==0)=false:=by rw[beq_eq_false_iff_ne];omega
  have hg:decide (0<(d.length:Int))=true:=decide_eq_true (by omega);obtain⟨b,o,rfl,hb,hc⟩:=hr.at h1;have hc1:=hc (d.length-1) (by omega);obtain⟨x,X⟩:∃x,Hid (d[d.length-1]?.getD 0=x):=⟨_,rfl⟩;rw[X.out] at hc1;clear hc h0 hr;by_cases h2:d.length<=64
  ·have hd : decide ((d.length : Int) <= 64) = true := decide_eq_true (by omega);go_enter Tryz.func159,Tryz.ntmps159;go_wp2;go_ret;exact⟨by rw[Ss _ _ h1 h2 x X.out];rfl,(Below.refl _ _).alloc (Nat.le_refl _) _⟩
  ·have hd : decide ((d.length : Int) <= 64) = false := decide_eq_false (by omega);go_enter Tryz.func159,Tryz.ntmps159;go_wp2;go_ret;exact⟨by rw[Sr _ _ (by omega)];rfl,(Below.refl _ _).alloc (Nat.le_refl _) _⟩
end
end Go.Proofs.YtghemgdfmldoeaaGreat
