import Derived.Handy
import Derived.Laws.AppendOwnNone
import Derived.Deep.RegionWith
import Derived.Test.YtikdblkfjchjbaaGreatDoorY00
set_option linter.unusedVariables false
set_option linter.unusedSimpArgs false
set_option maxHeartbeats 16000000
set_option maxRecDepth 100000
namespace Go.Proofs.YtikdblkfjchjbaaGreatDoor
open Go.RowKit
variable{s x:List UInt8}{i k g n q p o:Nat}{w w':World}{a b:Value}{T t:TypeId}{cs:List Value}{row:Option Nat}{A:Option Addr}
def Atm.agg:Atm→Value
 |.ch c=> .agg #[.int .u8 c.toNat,.string (S []),.int .i64 0]
 |.var n p=> .agg #[.int .u8 0,.string (S n),.int .i64 p]
def Atm.cells:Atm→List Value
 |.ch c=>[.int .u8 c.toNat,.string (S []),.int .i64 0]
 |.var n p=>[.int .u8 0,.string (S n),.int .i64 p]
theorem qxb(w:World)(a b c:Value)(t:TypeId):∀j u,[a,b,c][j]? =some u→(w.alloc (.cells #[a,b,c] t)).cell? ((⟨w.heap.size,0,none⟩:Addr).add j)=some u:=by
 intro j u h;match j,h with
 |0,h=>simp at h;subst h;simp[Addr.add]
 |1,h=>simp at h;subst h;simp[Addr.add]
 |2,h=>simp at h;subst h;simp[Addr.add]
theorem qjj(w:World)(a b c:Value)(t:TypeId)(B:Nat)(hB:w.heap.size=B):∀j u,[a,b,c][j]? =some u→(w.alloc (.cells #[a,b,c] t)).cell? ((⟨B,0,none⟩:Addr).add j)=some u:=by subst hB;exact qxb w a b c t
def Blk2(w:World)(g:Nat)(a b:Value):Prop:=∃t,w.heap[g]? =some (.cells #[a,b] t (0,0))
theorem Blk2.facts(h:Blk2 w g a b):w.cell? ⟨g,0,none⟩=some a∧w.cell? ⟨g,1,none⟩=some b∧w.frozen? ⟨g,0,none⟩=false∧w.frozen? ⟨g,1,none⟩=false:=by
 obtain⟨t,h⟩:=h;refine⟨?_,?_,frozen_of_row w g 0 _ t h,frozen_of_row w g 1 _ t h⟩
 ·rw[cell_of_row w g 0 _ t (0,0) h];rfl
 ·rw[cell_of_row w g 1 _ t (0,0) h];rfl
theorem Blk2.below{B:Nat}(h:Blk2 w g a b)(hb:Below B w w')(hg:g<B):Blk2 w' g a b:=by
 obtain⟨t,h⟩:=h;exact⟨t,(hb.block g hg).trans h⟩
theorem Blk2.lt(h:Blk2 w g a b):g<w.heap.size:=by
 obtain⟨t,h⟩:=h;exact(q6s h).1
theorem Blk2.grown(h:Blk2 w g a b)(hg:w.grownBy w' row)(hne:some g≠row):Blk2 w' g a b:=by
 have hl:=h.lt;obtain⟨t,h⟩:=h;exact⟨t,(hg.block g hl hne).trans h⟩
theorem Blk2.set1(h:Blk2 w g a b)(u:Value):Blk2 (w.setCell ⟨g,1,none⟩ u) g a u:=by
 obtain⟨t,h⟩:=h;exact⟨t,by rw[heap_setCell_same w g _ _ t u h];rfl⟩
theorem Blk2.far{g':Nat}(h:Blk2 w g a b)(u:Value)(hne:g≠g'):Blk2 (w.setCell ⟨g',o,none⟩ u) g a b:=by
 obtain⟨t,h⟩:=h;exact⟨t,by rw[heap_setCell_other w _ g u hne];exact h⟩
theorem Blk2.new(w:World)(a b:Value)(t:TypeId):Blk2 (w.alloc (.cells #[a,b] t)) w.heap.size a b:=⟨t,heap_alloc_new w _⟩
theorem qr7{acc:List Atm}(h:s.length≤k):qat s q k acc= .error q:=by rw[qat,dif_neg (by omega)]
theorem qvj{acc:List Atm}(h:k<s.length)(c:s[k]=10):qat s q k acc= .error q:=by rw[qat,dif_pos h,if_pos c]
theorem qpx{acc:List Atm}(h:k<s.length)(c:s[k]=34):qat s q k acc= .ok (acc,k+1):=by rw[qat,dif_pos h,if_neg (by rw[c];decide),if_pos c]
theorem qpw{acc:List Atm}(h:k<s.length)(c:s[k]=36)(v:varB s k=none):qat s q k acc= .error k:=by
 rw[qat,dif_pos h,if_neg (by rw[c];decide),if_neg (by rw[c];decide),if_pos c];split
 ·rfl
 ·rename_i h1;rw[v] at h1;cases h1
theorem qr5{acc:List Atm}(h:k<s.length)(c:s[k]=36)(v:varB s k=some (x,n)):qat s q k acc=qat s q (k+n) (acc++[.var x k]):=by
 conv=>lhs;rw[qat,dif_pos h,if_neg (by rw[c];decide),if_neg (by rw[c];decide),if_pos c]
 split
 ·rename_i h1;rw[v] at h1;cases h1
 ·rename_i x' n' h1;rw[v] at h1;cases h1;rfl
theorem qr6{acc:List Atm}(h:k+1<s.length)(c:s[k]=92)(d:s[k+1]=34∨s[k+1]=92∨s[k+1]=36):qat s q k acc=qat s q (k+2) (acc++[.ch s[k+1]]):=by
 conv=>lhs;rw[qat,dif_pos (show k<s.length by omega),if_neg (by rw[c];decide),if_neg (by rw[c];decide),if_neg (by rw[c];decide),if_pos c,dif_pos h,if_pos d]
theorem qj6{acc:List Atm}(h:k<s.length)(c:s[k]=92)(d:∀h1:k+1<s.length,¬(s[k+1]=34∨s[k+1]=92∨s[k+1]=36)):qat s q k acc= .error k:=by
 rw[qat,dif_pos h,if_neg (by rw[c];decide),if_neg (by rw[c];decide),if_neg (by rw[c];decide),if_pos c];split
 ·rename_i h1;rw[if_neg (d h1)]
 ·rfl
theorem qvk{acc:List Atm}(h:k<s.length)(c1:s[k]≠10)(c2:s[k]≠34)(c3:s[k]≠36)(c4:s[k]≠92):qat s q k acc=qat s q (k+1) (acc++[.ch s[k]]):=by
 conv=>lhs;rw[qat,dif_pos h,if_neg c1,if_neg c2,if_neg c3,if_neg c4]
theorem qpd{c d:UInt8}(h:c≠d):((c.toNat:Int)==(d.toNat:Int))=false:=by
 rw[beq_eq_false_iff_ne];intro e;exact h (q1i.2 e)
theorem qgo(h:qb0 s i=true):i+1<s.length∧s[i]? =some 92∧s[i+1]? =some 10:=by
 simp only[qb0,Bool.and_eq_true,beq_iff_eq] at h;exact⟨(List.getElem?_eq_some_iff.1 h.2).1,h.1,h.2⟩
theorem qxp{acc:List Atm}(h:s.length≤i):qbf s i acc= .ok (acc,i):=by rw[qbf,dif_neg (by omega)]
theorem qft{acc:List Atm}(h:i<s.length)(c:s[i]=10∨qb0 s i=true∨s[i]=32):qbf s i acc= .ok (acc,i):=by rw[qbf,dif_pos h,if_pos c]
theorem q09{acc:List Atm}(h:i<s.length)(c:s[i]=34)(g:qb0 s i=false)(v:qat s i (i+1) []= .error p):qbf s i acc= .error p:=by
 rw[qbf,dif_pos h,if_neg (by rw[c,g];decide),if_pos c];split
 ·rename_i h1;rw[v] at h1;cases h1;rfl
 ·rename_i h1;rw[v] at h1;cases h1
theorem qxo{acc l:List Atm}(h:i<s.length)(c:s[i]=34)(g:qb0 s i=false)(v:qat s i (i+1) []= .ok (l,n)):qbf s i acc=qbf s n (acc++l):=by
 conv=>lhs;rw[qbf,dif_pos h,if_neg (by rw[c,g];decide),if_pos c]
 split
 ·rename_i h1;rw[v] at h1;cases h1
 ·rename_i h1;rw[v] at h1;cases h1;rfl
theorem quq{acc:List Atm}(h:i<s.length)(c:s[i]=36)(g:qb0 s i=false)(v:varB s i=none):qbf s i acc= .error i:=by
 rw[qbf,dif_pos h,if_neg (by rw[c,g];decide),if_neg (by rw[c];decide),if_pos c];split
 ·rfl
 ·rename_i h1;rw[v] at h1;cases h1
theorem qo9{acc:List Atm}(h:i<s.length)(c:s[i]=36)(g:qb0 s i=false)(v:varB s i=some (x,n)):qbf s i acc=qbf s (i+n) (acc++[.var x i]):=by
 conv=>lhs;rw[qbf,dif_pos h,if_neg (by rw[c,g];decide),if_neg (by rw[c];decide),if_pos c]
 split
 ·rename_i h1;rw[v] at h1;cases h1
 ·rename_i h1;rw[v] at h1;cases h1;rfl
theorem qpa{acc:List Atm}(h:i+1<s.length)(c:s[i]=92)(g:qb0 s i=false):qbf s i acc=qbf s (i+2) (acc++[.ch s[i+1]]):=by
 conv=>lhs;rw[qbf,dif_pos (show i<s.length by omega),if_neg (by rw[c,g];decide),if_neg (by rw[c];decide),if_neg (by rw[c];decide),if_pos c,dif_pos h]
theorem qus{acc:List Atm}(h:i<s.length)(c:s[i]=92)(g:qb0 s i=false)(hl:s.length≤i+1):qbf s i acc= .error i:=by
 rw[qbf,dif_pos h,if_neg (by rw[c,g];decide),if_neg (by rw[c];decide),if_neg (by rw[c];decide),if_pos c,dif_neg (by omega)]
theorem qti{acc:List Atm}(h:i<s.length)(c1:s[i]≠10)(c0:s[i]≠32)(g:qb0 s i=false)(c2:s[i]≠34)(c3:s[i]≠36)(c4:s[i]≠92):qbf s i acc=qbf s (i+1) (acc++[.ch s[i]]):=by
 conv=>lhs;rw[qbf,dif_pos h,if_neg (by rw[g];simp[c1,c0]),if_neg c2,if_neg c3,if_neg c4]
theorem qfh(s:List UInt8)(i:Nat)(acc l:List Atm)(n:Nat)(h:qbf s i acc= .ok (l,n))(hi:i≤s.length):i≤n∧n≤s.length∧l.length+i≤n+acc.length:=by
 induction hm:s.length - i using Nat.strongRecOn generalizing i acc with
 |ind m ih=>
  rw[qbf] at h;split at h
  ·split at h
   ·simp only[Except.ok.injEq,Prod.mk.injEq] at h;obtain⟨rfl,rfl⟩:=h;omega
   ·split at h
    ·split at h
     ·cases h
     ·rename_i l' n' hq
      have:=qd9 _ _ _ _ _ _ hq;have:=ih (s.length - n') (by omega) _ _ h (by omega) rfl;simp at this ⊢;simp at*;omega
    ·split at h
     ·split at h
      ·cases h
      ·rename_i x n' hv
       obtain⟨v1,v2,v3,v4⟩:=qds hv;have:=ih (s.length - (i+n')) (by omega) _ _ h (by omega) rfl;simp at this;omega
     ·split at h
      ·split at h
       ·have:=ih (s.length - (i+2)) (by omega) _ _ h (by omega) rfl
        simp at this;omega
       ·cases h
      ·have:=ih (s.length - (i+1)) (by omega) _ _ h (by omega) rfl
       simp at this;omega
  ·cases h;omega
theorem qd6(s:List UInt8)(i:Nat)(acc l:List Atm)(n:Nat)(h:qbf s i acc= .ok (l,n))(hi:i<s.length)(c1:s[i]≠10)(c0:s[i]≠32)(g:qb0 s i=false):i<n:=by
 rw[qbf,dif_pos hi,if_neg (by rw[g];simp[c1,c0])] at h;split at h
 ·split at h
  ·cases h
  ·rename_i l' n' hq
   have:=qd9 _ _ _ _ _ _ hq;have:=qfh _ _ _ _ _ h (by omega);omega
 ·split at h
  ·split at h
   ·cases h
   ·rename_i x n' hv
    obtain⟨v1,v2,v3,v4⟩:=qds hv;have:=qfh _ _ _ _ _ h (by omega);omega
  ·split at h
   ·split at h
    ·have:=qfh _ _ _ _ _ h (by omega);omega
    ·cases h
   ·have:=qfh _ _ _ _ _ h (by omega);omega
theorem qbo(h:qa2 s i=false):∃hi:i<s.length,s[i]≠10:=by
 unfold qa2 at h;split at h
 ·cases h
 ·rename_i c hc
  obtain⟨h1,h2⟩:=List.getElem?_eq_some_iff.1 hc;exact⟨h1,by rw[h2];simpa using h⟩
def qb6(s:List UInt8)(i:Nat):Nat:=if h:qa2 s i=true then i else qb6 s (i+1)
termination_by s.length - i
decreasing_by
 have:=qbo (i:=i) (s:=s) (by simpa using h);obtain⟨h1,_⟩:=this;omega
theorem qjh(h:qa2 s i=true):qb6 s i=i:=by rw[qb6,dif_pos h]
theorem ql8(h:qa2 s i=false):qb6 s i=qb6 s (i+1):=by
 conv=>lhs;rw[qb6,dif_neg (by simp[h])]
theorem qs7(s:List UInt8)(i:Nat)(hi:i≤s.length):i≤qb6 s i∧qb6 s i≤s.length∧qa2 s (qb6 s i)=true:=by
 induction hm:s.length - i using Nat.strongRecOn generalizing i with
 |ind m ih=>
  cases h:qa2 s i with
  |true=>rw[qjh h];exact⟨Nat.le_refl _,hi,h⟩
  |false=>
   rw[ql8 h];obtain⟨h1,_⟩:=qbo h;have:=ih (s.length - (i+1)) (by omega) (i+1) (by omega) rfl;exact⟨by omega,this.2.1,this.2.2⟩
structure WordG where
 l:List Atm
 at_:Nat
 deriving DecidableEq
def qbq(s:List UInt8)(i:Nat)(acc:List WordG):Except Nat (List WordG×Nat):=
 if h:qa2 s i=true then .ok (acc,i+1)
 else if qb0 s i=true then qbq s (i+2) acc
 else if s[i]? =some 32 then qbq s (i+1) acc
 else if s[i]? =some 35∧acc=[] then .ok (acc,qb6 s i+1)
 else match qbf s i [] with
  |.error p=> .error p
  |.ok (l,n)=>if i<n then qbq s n (acc++[⟨l,i⟩]) else .error i
termination_by s.length - i
decreasing_by
 all_goals
  have:=qbo (i:=i) (s:=s) (by simpa using h);obtain⟨h1,_⟩:=this;omega
theorem qf6{acc:List WordG}(h:qa2 s i=true):qbq s i acc= .ok (acc,i+1):=by rw[qbq,dif_pos h]
theorem qhz{acc:List WordG}(h:qa2 s i=false)(g:qb0 s i=true):qbq s i acc=qbq s (i+2) acc:=by
 conv=>lhs;rw[qbq,dif_neg (by simp[h]),if_pos g]
theorem qfb{acc:List WordG}(h:qa2 s i=false)(g:qb0 s i=false)(c:s[i]? =some 32):qbq s i acc=qbq s (i+1) acc:=by
 conv=>lhs;rw[qbq,dif_neg (by simp[h]),if_neg (by simp[g]),if_pos c]
theorem qex(h:qa2 s i=false)(g:qb0 s i=false)(c:s[i]? =some 35):qbq s i []= .ok ([],qb6 s i+1):=by
 rw[qbq,dif_neg (by simp[h]),if_neg (by simp[g]),if_neg (by rw[c];decide),if_pos ⟨c,rfl⟩]
theorem qfa{acc:List WordG}(h:qa2 s i=false)(g:qb0 s i=false)(c:s[i]?≠some 32)(d:¬(s[i]? =some 35∧acc=[]))(v:qbf s i []= .error p):qbq s i acc= .error p:=by
 rw[qbq,dif_neg (by simp[h]),if_neg (by simp[g]),if_neg c,if_neg d,v]
theorem qed{acc:List WordG}{l:List Atm}(h:qa2 s i=false)(g:qb0 s i=false)(c:s[i]?≠some 32)(d:¬(s[i]? =some 35∧acc=[]))(v:qbf s i []= .ok (l,n)):qbq s i acc=qbq s n (acc++[⟨l,i⟩]):=by
 obtain⟨hi,n10⟩:=qbo h;have:=qd6 s i [] l n v hi n10 (by intro e;apply c;rw[List.getElem?_eq_getElem hi,e]) g;conv=>lhs;rw[qbq,dif_neg (by simp[h]),if_neg (by simp[g]),if_neg c,if_neg d,v]
 simp only[this,if_true]
theorem qeh(s:List UInt8)(i:Nat)(acc l:List WordG)(n:Nat)(h:qbq s i acc= .ok (l,n)):i<n∧(i≤s.length→n≤s.length+1∧l.length+i≤n+acc.length):=by
 induction hm:s.length - i using Nat.strongRecOn generalizing i acc with
 |ind m ih=>
  cases hs:qa2 s i with
  |true=>rw[qf6 hs] at h;cases h;omega
  |false=>
   obtain⟨hi,n10⟩:=qbo hs;cases hg:qb0 s i with
   |true=>
    obtain⟨hg1,_⟩:=qgo hg;rw[qhz hs hg] at h;have:=ih (s.length - (i+2)) (by omega) _ _ h rfl;omega
   |false=>
    by_cases c:s[i]? =some 32
    ·rw[qfb hs hg c] at h
     have:=ih (s.length - (i+1)) (by omega) _ _ h rfl;omega
    ·by_cases d:s[i]? =some 35∧acc=[]
     ·obtain⟨d1,rfl⟩:=d
      rw[qex hs hg d1] at h;have:=qs7 s i (by omega);cases h;simp;omega
     ·cases hw:qbf s i [] with
      |error p=>rw[qfa hs hg c d hw] at h;cases h
      |ok ln=>
       obtain⟨l',n'⟩:=ln;have h1:=qfh _ _ _ _ _ hw (by omega);have h2:=qd6 s i [] l' n' hw hi n10 (by intro e;apply c;rw[List.getElem?_eq_getElem hi,e]) hg;rw[qed hs hg c d hw] at h;have:=ih (s.length - n') (by omega) _ _ h rfl;simp at this;omega
theorem Blk2.alloc(h:Blk2 w g a b)(o:Obj):Blk2 (w.alloc o) g a b:=h.below ((Below.refl w.heap.size w).alloc (Nat.le_refl _) o) h.lt
theorem Blk2.drew(h:Blk2 w g a b):Blk2 w.drew g a b:=h
theorem Blk2.after(h:Blk2 w g a b)(hb:Below w.heap.size w w'):Blk2 w' g a b:=h.below hb h.lt
def GoodA(l:List Atm):Prop:=∀x p,Atm.var x p∈l→x≠[]∧x.length≤10
theorem GoodA.nil:GoodA []:=fun _ _ h=>by cases h
theorem GoodA.app{l m:List Atm}(h:GoodA l)(k:GoodA m):GoodA (l++m):=fun x p hx=>by
 rcases List.mem_append.1 hx with hx|hx
 ·exact h x p hx
 ·exact k x p hx
theorem GoodA.ch(c:UInt8):GoodA [.ch c]:=fun x p hx=>by simp at hx
theorem GoodA.var(h:x≠[]∧x.length≤10):GoodA [.var x p]:=fun y q hy=>by
 simp at hy;rw[hy.1];exact h
theorem qj5(s:List UInt8)(q k:Nat)(acc l:List Atm)(n:Nat)(h:qat s q k acc= .ok (l,n))(g:GoodA acc):GoodA l:=by
 induction hm:s.length - k using Nat.strongRecOn generalizing k acc with
 |ind m ih=>
  rw[qat] at h;split at h
  ·split at h
   ·cases h
   ·split at h
    ·simp only[Except.ok.injEq,Prod.mk.injEq] at h;obtain⟨rfl,rfl⟩:=h;exact g
    ·split at h
     ·split at h
      ·cases h
      ·rename_i x n' hv
       obtain⟨v1,v2,v3,v4⟩:=qds hv;exact ih (s.length - (k+n')) (by omega) _ _ h (g.app (GoodA.var ⟨v3,v4⟩)) rfl
     ·split at h
      ·split at h
       ·split at h
        ·exact ih (s.length - (k+2)) (by omega) _ _ h (g.app (GoodA.ch _)) rfl
        ·cases h
       ·cases h
      ·exact ih (s.length - (k+1)) (by omega) _ _ h (g.app (GoodA.ch _)) rfl
  ·cases h
theorem qur(s:List UInt8)(i:Nat)(acc l:List Atm)(n:Nat)(h:qbf s i acc= .ok (l,n))(g:GoodA acc):GoodA l:=by
 induction hm:s.length - i using Nat.strongRecOn generalizing i acc with
 |ind m ih=>
  rw[qbf] at h;split at h
  ·split at h
   ·simp only[Except.ok.injEq,Prod.mk.injEq] at h;obtain⟨rfl,rfl⟩:=h;exact g
   ·split at h
    ·split at h
     ·cases h
     ·rename_i l' n' hq
      have:=qd9 _ _ _ _ _ _ hq;exact ih (s.length - n') (by omega) _ _ h (g.app (qj5 _ _ _ _ _ _ hq GoodA.nil)) rfl
    ·split at h
     ·split at h
      ·cases h
      ·rename_i x n' hv
       obtain⟨v1,v2,v3,v4⟩:=qds hv;exact ih (s.length - (i+n')) (by omega) _ _ h (g.app (GoodA.var ⟨v3,v4⟩)) rfl
     ·split at h
      ·split at h
       ·exact ih (s.length - (i+2)) (by omega) _ _ h (g.app (GoodA.ch _)) rfl
       ·cases h
      ·exact ih (s.length - (i+1)) (by omega) _ _ h (g.app (GoodA.ch _)) rfl
  ·cases h;exact g
def q6h(s:List UInt8)(ws:List WordG):Prop:=∀x∈ws,GoodA x.l∧x.l.length≤s.length∧x.at_≤s.length
theorem qm7(s:List UInt8)(i:Nat)(acc l:List WordG)(n:Nat)(h:qbq s i acc= .ok (l,n))(g:q6h s acc):q6h s l:=by
 induction hm:s.length - i using Nat.strongRecOn generalizing i acc with
 |ind m ih=>
  cases hs:qa2 s i with
  |true=>rw[qf6 hs] at h;cases h;exact g
  |false=>
   obtain⟨hi,n10⟩:=qbo hs;cases hg:qb0 s i with
   |true=>
    obtain⟨hg1,_⟩:=qgo hg;rw[qhz hs hg] at h;exact ih (s.length - (i+2)) (by omega) _ _ h g rfl
   |false=>
    by_cases c:s[i]? =some 32
    ·rw[qfb hs hg c] at h
     exact ih (s.length - (i+1)) (by omega) _ _ h g rfl
    ·by_cases d:s[i]? =some 35∧acc=[]
     ·obtain⟨d1,rfl⟩:=d
      rw[qex hs hg d1] at h;cases h;exact g
     ·cases hw:qbf s i [] with
      |error p=>rw[qfa hs hg c d hw] at h;cases h
      |ok ln=>
       obtain⟨l',n'⟩:=ln;have h1:=qfh _ _ _ _ _ hw (by omega);have h2:=qd6 s i [] l' n' hw hi n10 (by intro e;apply c;rw[List.getElem?_eq_getElem hi,e]) hg;rw[qed hs hg c d hw] at h;refine ih (s.length - n') (by omega) _ _ h ?_ rfl;intro x hx;rcases List.mem_append.1 hx with hx|hx
       ·exact g x hx
       ·simp at hx h1;subst hx;exact⟨qur _ _ _ _ _ hw GoodA.nil,by simp;omega,by simp;omega⟩
def qbe:List Atm→List UInt8→List UInt8×Bool
 |[],acc=>(acc,true)
 |.ch c::r,acc=>qbe r (acc++[c])
 |.var _ _::_,_=>([],false)
def WordG.text(w:WordG):List UInt8:=(qbe w.l []).1
def WordG.flat(w:WordG):Bool:=(qbe w.l []).2
theorem qvt(l:List Atm)(acc:List UInt8):(qbe l acc).1.length≤l.length+acc.length:=by
 induction l generalizing acc with
 |nil=>simp[qbe]
 |cons x r ih=>
  cases x with
  |ch c=>rw[qbe];have:=ih (acc++[c]);simp at this ⊢;omega
  |var n p=>simp[qbe]
structure StepG where
 op:List UInt8
 words:List WordG
 stage:Int
 at_:Nat
 deriving DecidableEq
structure StageG where
 name:List UInt8
 base:Int
 steps:List StepG
 vars:List (List UInt8)
 deriving DecidableEq
def qi1(c:UInt8):Bool:=97≤c&&c≤122
def qnn(c:UInt8):Bool:=48≤c&&c≤57
theorem qjt(c:UInt8):qi1 c=true↔97≤(c.toNat:Int)∧(c.toNat:Int)≤122:=by
 simp only[qi1,Bool.and_eq_true,decide_eq_true_eq,UInt8.le_iff_toNat_le];simp;omega
theorem qnm(c:UInt8):qnn c=true↔48≤(c.toNat:Int)∧(c.toNat:Int)≤57:=by
 simp only[qnn,Bool.and_eq_true,decide_eq_true_eq,UInt8.le_iff_toNat_le];simp;omega
def okS(s:List UInt8)(j:Nat):Bool:=match s[j]? with|none=>true|some c=>qi1 c ||(qnn c&&decide (j≠0))
def qby(s:List UInt8):Bool:=(List.range s.length).all (okS s)&&!s.isEmpty&&decide (s.length≤10)
def qan(l:List StageG)(name:List UInt8):Int:=
 match l.findIdx? (fun x=>x.name==name) with|some k=>k|none=> -1
def qcq:List UInt8:=[70,82,79,77]
def qfv:List UInt8:=[67,79,80,89]
def wADD:List UInt8:=[65,68,68]
def qjo:List UInt8:=[76,73,78,75]
def wENV:List UInt8:=[69,78,86]
def wRM:List UInt8:=[82,77]
def qc4:List UInt8:=[87,79,82,75,68,73,82]
def qdk:List UInt8:=[77,75,68,73,82]
def wAS:List UInt8:=[65,83]
def qcb:List UInt8:=[115,99,114,97,116,99,104]
def qn0:List UInt8:=[45,45,102,114,111,109,61]
def qbc(op:List UInt8):Option (Nat×Nat):=
 if op=qcq then some (1,3) else if op=qfv then some (2,3)
 else if op=wADD then some (2,2) else if op=qjo then some (2,2) else if op=wENV then some (2,2)
 else if op=wRM then some (1,1) else if op=qc4 then some (1,1)
 else if op=qdk then some (1,2) else none
def nth(w:List WordG)(k:Nat):WordG:=w.getD k ⟨[],0⟩
theorem qzf{w:List WordG}(h:k<w.length):nth w k=w[k]:=by simp[nth,h]
abbrev Flt:=Nat×Nat
def qfw(st:List StageG)(k:Int):List (List UInt8):=if 0≤k then (match st[k.toNat]? with|some x=>x.vars|none=>[]) else []
def qh5(w:List WordG):Except Flt (List UInt8):=
 if w.length=3∨w.length=4 then
  if (nth w 2).text≠wAS then .error (5,(nth w 2).at_)
  else if w.length=3 then .error (5,(nth w 0).at_)
  else if qby (nth w 3).text=false then .error (5,(nth w 3).at_)
  else .ok (nth w 3).text
 else .ok []
def qg2(st:List StageG)(w:List WordG):Except Flt (List StageG):=
 match qh5 w with
 |.error f=> .error f
 |.ok name=>
  if qby (nth w 1).text=false then .error (5,(nth w 1).at_)
  else if qan st (nth w 1).text<0∧(nth w 1).text≠qcb then .error (6,(nth w 1).at_)
  else if name≠[]∧(name=qcb∨0≤qan st name) then .error (6,(nth w 3).at_)
  else if st.length=5 then .error (10,(nth w 0).at_)
  else .ok (st++[⟨name,qan st (nth w 1).text,[],qfw st (qan st (nth w 1).text)⟩])
def qlv(w:WordG):Bool:=qn0.isPrefixOf w.text&&w.flat
def qgy(st:List StageG)(w:List WordG):Except Flt (Int×List WordG):=
 if qlv (nth w 1)≠decide (w.length=4) then .error (5,(nth w 0).at_)
 else if qlv (nth w 1)=false then .ok (-1,w.drop 1)
 else if qby ((nth w 1).text.drop 7)=false then .error (5,(nth w 1).at_)
 else if qan st ((nth w 1).text.drop 7)<0∨qan st ((nth w 1).text.drop 7)=(st.length:Int) - 1 then .error (6,(nth w 1).at_)
 else .ok (qan st ((nth w 1).text.drop 7),w.drop 2)
def octC(c:UInt8):Bool:=48≤c&&c≤55
def qfr(s:List UInt8):Bool:=decide (s.length=3)&&s.all octC
def qb8(vars:List (List UInt8)):List Atm→Option Nat
 |[]=>none
 |.ch _::r=>qb8 vars r
 |.var x p::r=>if x∈vars then qb8 vars r else some p
def qbn(vars:List (List UInt8)):List WordG→Option Nat
 |[]=>none
 |w::r=>match qb8 vars w.l with|some p=>some p|none=>qbn vars r
def qci(st:List StageG)(op:List UInt8)(w:List WordG):Except Flt (Int×List WordG):=
 if op=qfv then qgy st w
 else if op=qdk then
  if w.length=3∧((nth w 2).flat=false∨qfr (nth w 2).text=false) then .error (5,(nth w 2).at_) else .ok (-1,w.drop 1)
 else if op=wENV then
  if (nth w 1).flat=false∨qhl (nth w 1).text=false then .error (5,(nth w 1).at_) else .ok (-1,w.drop 1)
 else .ok (-1,w.drop 1)
def qez(st:List StageG):List (List UInt8):=match st.getLast? with|some x=>x.vars|none=>[]
def qoc(st:List StageG)(vs:List (List UInt8))(x:StepG):List StageG:=
 match st.getLast? with|some y=>st.dropLast++[⟨y.name,y.base,y.steps++[x],y.vars++vs⟩]|none=>[]
def qfy(st:List StageG)(op:List UInt8)(w:List WordG):Except Flt (List StageG):=
 match qci st op w with
 |.error f=> .error f
 |.ok (k,l)=>
  match qbn (qez st) l with
  |some p=> .error (7,p)
  |none=> .ok (qoc st (if op=wENV then [(nth w 1).text] else []) ⟨op,l,k,(nth w 0).at_⟩)
def qce(st:List StageG)(w:List WordG):Except Flt (List StageG):=
 match qbc (nth w 0).text with
 |none=> .error (5,(nth w 0).at_)
 |some (low,high)=>
  if (st=[]∧(nth w 0).text≠qcq)∨w.length<low+1∨high+1<w.length then .error (5,(nth w 0).at_)
  else if (nth w 0).text=qcq then qg2 st w
  else qfy st (nth w 0).text w
def qdh(s:List UInt8)(i:Nat)(st:List StageG)(steps:Nat):Except Flt (List StageG):=
 if i<s.length then
  match qbq s i [] with
  |.error p=> .error (5,p)
  |.ok (w,n)=>
   if i<n then
    if w=[] then qdh s n st steps
    else match qce st w with
     |.error f=> .error f
     |.ok st'=>if 24<steps+1 then .error (10,(nth w 0).at_) else qdh s n st' (steps+1)
   else .error (0,0)
 else if st=[] then .error (5,s.length) else .ok st
termination_by s.length - i
theorem qem{st:List StageG}(h:s.length≤i):qdh s i st n=if st=[] then .error (5,s.length) else .ok st:=by rw[qdh,if_neg (by omega)]
theorem qef{st:List StageG}(h:i<s.length)(v:qbq s i []= .error p):qdh s i st n= .error (5,p):=by rw[qdh,if_pos h,v]
theorem qga{st:List StageG}(h:i<s.length)(v:qbq s i []= .ok ([],k)):qdh s i st n=qdh s k st n:=by
 conv=>lhs;rw[qdh,if_pos h,v]
 simp only[(qeh _ _ _ _ _ v).1,if_true]
theorem qhm{w:List WordG}{st:List StageG}{f:Flt}(h:i<s.length)(v:qbq s i []= .ok (w,k))(hw:w≠[])(g:qce st w= .error f):qdh s i st n= .error f:=by
 rw[qdh,if_pos h,v];simp only[(qeh _ _ _ _ _ v).1,if_true,hw,if_false,g]
theorem qir{w:List WordG}{st st':List StageG}(h:i<s.length)(v:qbq s i []= .ok (w,k))(hw:w≠[])(g:qce st w= .ok st')(hn:24<n+1):qdh s i st n= .error (10,(nth w 0).at_):=by
 rw[qdh,if_pos h,v];simp only[(qeh _ _ _ _ _ v).1,if_true,hw,if_false,g,hn]
theorem qgp{w:List WordG}{st st':List StageG}(h:i<s.length)(v:qbq s i []= .ok (w,k))(hw:w≠[])(g:qce st w= .ok st')(hn:¬24<n+1):qdh s i st n=qdh s k st' (n+1):=by
 conv=>lhs;rw[qdh,if_pos h,v]
 simp only[(qeh _ _ _ _ _ v).1,if_true,hw,if_false,g,hn]
def qd4(c:UInt8):Bool:=c==10 ||(32≤c&&c≤126)
def qa8(s:List UInt8):Except Flt (List StageG):=
 if 1500<s.length then .error (10,1500)
 else match s.findIdx? (fun c=>!qd4 c) with
  |some k=> .error (5,k)
  |none=>qdh s 0 [] 0
def BlkT(w:World)(g:Nat)(t:TypeId):Prop:=∃cs:Array Value,w.heap[g]? =some (Obj.cells cs t (0,0))
theorem BlkT.new(w:World)(cs:Array Value)(t:TypeId):BlkT (w.alloc (.cells cs t)) w.heap.size t:=⟨cs,heap_alloc_new w _⟩
theorem BlkT.after(h:BlkT w g t)(hb:Below w.heap.size w w'):BlkT w' g t:=by
 obtain⟨cs,h⟩:=h;exact⟨cs,(hb.block g (q6s h).1).trans h⟩
theorem BlkT.grown(h:BlkT w g t)(hg:w.grownBy w' row)(hne:some g≠row):BlkT w' g t:=by
 obtain⟨cs,h⟩:=h;exact⟨cs,(hg.block g (q6s h).1 hne).trans h⟩
theorem BlkT.set(h:BlkT w g t)(o:Nat)(u:Value):BlkT (w.setCell ⟨g,o,none⟩ u) g t:=by
 obtain⟨cs,h⟩:=h;exact⟨_,heap_setCell_same w g o cs t u h⟩
theorem qq6(w:World)(a b:Value)(t:TypeId)(B:Nat)(hB:w.heap.size=B):∀j u,[a,b][j]? =some u→(w.alloc (.cells #[a,b] t)).cell? ((⟨B,0,none⟩:Addr).add j)=some u:=by
 subst hB;intro j u h;match j,h with
 |0,h=>simp at h;subst h;simp[Addr.add]
 |1,h=>simp at h;subst h;simp[Addr.add]
theorem q4d(h:k<s.length):okS s k=(qi1 s[k] ||(qnn s[k]&&decide (k≠0))):=by simp[okS,h]
theorem qu9(h:∀j,j<s.length→okS s j=true):qby s=(!s.isEmpty&&decide (s.length≤10)):=by
 unfold qby;rw[show(List.range s.length).all (okS s)=true from by rw[List.all_eq_true];intro j hj;exact h j (by simpa using hj)];simp
theorem qmu(hk:k<s.length)(h:okS s k=false):qby s=false:=by
 unfold qby;rw[show(List.range s.length).all (okS s)=false from by rw[List.all_eq_false];exact⟨k,by simpa using hk,by simp[h]⟩];simp
theorem qns{l:List StageG}(hk:k<l.length)(h:l[k].name=x)(hb:∀j (hj:j<l.length),j<k→l[j].name≠x):qan l x=k:=by
 unfold qan;have:l.findIdx? (fun y=>y.name==x)=some k:=by
  rw[List.findIdx?_eq_some_iff_getElem];refine⟨hk,by simpa using h,fun j hj=>by simpa using hb j (by omega) hj⟩
 rw[this]
theorem qj9{l:List StageG}(hb:∀j (hj:j<l.length),l[j].name≠x):qan l x= -1:=by
 unfold qan;have:l.findIdx? (fun y=>y.name==x)=none:=by
  rw[List.findIdx?_eq_none_iff];intro y hy;obtain⟨j,hj,rfl⟩:=List.getElem_of_mem hy;simpa using hb j hj
 rw[this]
theorem qoh(c:UInt8):octC c=true↔48≤(c.toNat:Int)∧(c.toNat:Int)≤55:=by
 simp only[octC,Bool.and_eq_true,decide_eq_true_eq,UInt8.le_iff_toNat_le];simp;omega
def qvz(s:List UInt8):Bool:=s.all octC
abbrev qbl:TypeId:=9
def RdT(T:TypeId)(w:World)(A:Option Addr)(cs:List Value):Prop:=
 cs=[]∨∃(b o:Nat) (cur:Array Value),A=some ⟨b,o,none⟩∧w.heap[b]? =some (Obj.cells cur T (0,0))∧∀(i:Nat) (u:Value),cs[i]? =some u→cur[o+i]? =some u
theorem RdT.rd(h:RdT T w A cs):Rd w A cs:=by
 rcases h with rfl|⟨b,o,cur,rfl,hh,hc⟩
 ·exact .inl rfl
 ·refine .inr ⟨b,o,rfl,fun i u hu=>?_⟩
  rw[cell_of_row w b (o+i) cur T (0,0) hh];exact hc i u hu
theorem RdT.keep(h:RdT T w A cs)(hk:KeepT T w w'):RdT T w' A cs:=by
 rcases h with rfl|⟨b,o,cur,rfl,hh,hc⟩
 ·exact .inl rfl
 ·exact .inr ⟨b,o,cur,rfl,hk b cur hh,hc⟩
theorem RdT.of_own{base size c:Nat}{ao:Option Addr}{xs:List Value}(h:w.ownsRow base T size (.slice ao n c) n xs):RdT T w ao xs:=by
 obtain⟨h1,h2⟩:=h;rcases h2 with⟨e,rfl⟩|⟨g,cap,cur,e,hg,hh,hn,hm,r1,r2⟩
 ·refine .inl ?_
  simpa using h1
 ·simp only[Value.slice.injEq] at e
  obtain⟨rfl,-,rfl⟩:=e;refine .inr ⟨g,0,cur,rfl,hh,fun i u hu=>?_⟩;have hi:=(List.getElem?_eq_some_iff.1 hu).1;rw[←r2,List.getElem?_take] at hu;rw[Nat.zero_add];split at hu
  ·simpa using hu
  ·cases hu
theorem RdT.drop{b:Nat}(h:RdT T w (some ⟨b,o,none⟩) cs)(m:Nat):RdT T w (some ⟨b,o+m,none⟩) (cs.drop m):=by
 rcases h with rfl|⟨b',o',cur,e,hh,hc⟩
 ·exact .inl (by simp)
 ·simp only[Option.some.injEq,Addr.mk.injEq] at e
  obtain⟨rfl,rfl,-⟩:=e;refine .inr ⟨b,o+m,cur,rfl,hh,fun i u hu=>?_⟩;rw[List.getElem?_drop] at hu;rw[Nat.add_assoc];exact hc _ _ hu
def GoodW(ws:List WordG):Prop:=∀x∈ws,GoodA x.l∧x.l.length≤2000
theorem GoodW.nth{ws:List WordG}(h:GoodW ws)(k:Nat)(hk:k<ws.length):GoodA (nth ws k).l∧(nth ws k).l.length≤2000:=by
 rw[qzf hk];exact h _ (List.getElem_mem hk)
theorem WordG.text_len(x:WordG):x.text.length≤x.l.length:=by
 have:=qvt x.l [];simpa[WordG.text] using this
end Go.Proofs.YtikdblkfjchjbaaGreatDoor
