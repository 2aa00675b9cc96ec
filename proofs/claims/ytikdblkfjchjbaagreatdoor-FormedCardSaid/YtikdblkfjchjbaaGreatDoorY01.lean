import Derived.Sort.Walk0
import Derived.Laws.AppendOwnNone
import Derived.Test.YtikdblkfjchjbaaGreatDoorY00
set_option linter.unusedVariables false
set_option linter.unusedSimpArgs false
set_option maxHeartbeats 16000000
set_option maxRecDepth 100000
namespace Go.Proofs.YtikdblkfjchjbaaGreatDoor
variable{w w2 w' W W':World}{B N n g k i:Nat}{p d e s:List UInt8}{a b l:List (List UInt8)}
def qal:List (List UInt8)→List (List UInt8)→Int
 |x::xs,y::ys=>if x<y then -1 else if y<x then 1 else qal xs ys
 |xs,ys=>(xs.length:Int) - ys.length
def qaq:List (List UInt8)→List (List UInt8)→Int
 |[],[]=>0
 |[],_::_=> -1
 |_::_,[]=>1
 |x::xs,y::ys=>if x<y then -1 else if y<x then 1 else qaq xs ys
theorem qjg(a b:List (List UInt8)):(qaq a b=0↔qal a b=0)∧(0<qaq a b↔0<qal a b)∧(qaq a b<0↔qal a b<0):=by
 induction a generalizing b with
 |nil=>
  cases b with
  |nil=>simp[qaq,qal]
  |cons y ys=>simp only[qaq,qal,List.length_nil,List.length_cons];omega
 |cons x xs ih=>
  cases b with
  |nil=>simp only[qaq,qal,List.length_nil,List.length_cons];omega
  |cons y ys=>
   rw[qaq,qal];split
   ·simp
   ·split
    ·simp
    ·exact ih ys
def cmpS(a b:List UInt8):Int:=if a<b then -1 else if b<a then 1 else 0
theorem qz3(a b:List UInt8):Op.bytesLess a b=decide (a<b):=_root_.Go.Proofs.bytesLess_eq a b
def inB(dir rest:List UInt8):List UInt8:=if dir=[]∨rest=[] then dir++rest else dir++47::rest
def qge(p dir:List UInt8):Bool:=if dir=[] then !p.isEmpty else (dir++[47]).isPrefixOf p
def upB(p:List UInt8):List UInt8×List UInt8:=(qa0 (qaa p).dropLast,(qaa p).getLastD [])
def visC(c:UInt8):Bool:=33≤c&&c≤126
theorem q1c(c:UInt8):visC c=true↔33≤(c.toNat:Int)∧(c.toNat:Int)≤126:=by
 simp only[visC,Bool.and_eq_true,decide_eq_true_eq,UInt8.le_iff_toNat_le];simp;omega
def qdt(s:List UInt8):Bool:=s.all visC&&(!s.isEmpty&&decide (s.length≤100))
structure Ent where
 path:List UInt8
 kind:Int
 mode:Int
 data:List UInt8
 deriving DecidableEq
def Ent.cells(e:Ent):List Value:=[.string (S e.path),.int .i64 e.kind,.int .i64 e.mode,.string (S e.data)]
def Ent.agg(e:Ent):Value:=.agg #[.string (S e.path),.int .i64 e.kind,.int .i64 e.mode,.string (S e.data)]
def ents:List Ent→List Value
 |[]=>[]
 |e::r=>e.cells++ents r
theorem q3i(l:List Ent):(ents l).length=l.length*4:=by
 induction l with
 |nil=>rfl
 |cons e r ih=>simp only[ents,List.length_append,ih,List.length_cons];simp[Ent.cells];omega
theorem qt9(l m:List Ent):ents (l++m)=ents l++ents m:=by
 induction l with
 |nil=>rfl
 |cons e r ih=>simp only[List.cons_append,ents,ih,List.append_assoc]
theorem q3j(l:List Ent)(i:Nat)(h:i<l.length):(ents l)[i*4]? =some (.string (S l[i].path))∧(ents l)[i*4+1]? =some (.int .i64 l[i].kind)∧(ents l)[i*4+2]? =some (.int .i64 l[i].mode)∧(ents l)[i*4+3]? =some (.string (S l[i].data)):=by
 induction l generalizing i with
 |nil=>simp at h
 |cons e r ih=>
  cases i with
  |zero=>simp[ents,Ent.cells]
  |succ i=>
   have:=ih i (by simpa using h);have e4:(i+1)*4=4+i*4:=by omega
   simp only[ents,e4,List.getElem_cons_succ];refine⟨?_,?_,?_,?_⟩
   ·rw[List.getElem?_append_right (by simp[Ent.cells])];simpa[Ent.cells] using this.1
   ·rw[List.getElem?_append_right (by simp[Ent.cells];omega)];simpa[Ent.cells,Nat.add_assoc] using this.2.1
   ·rw[List.getElem?_append_right (by simp[Ent.cells];omega)];simpa[Ent.cells,Nat.add_assoc] using this.2.2.1
   ·rw[List.getElem?_append_right (by simp[Ent.cells];omega)];simpa[Ent.cells,Nat.add_assoc] using this.2.2.2
def qh6(m:Int):Bool:=decide (0≤m∧m≤511)
def qbh(e:Ent):Bool:=
 if e.kind=1 then qh6 e.mode&&e.data.isEmpty
 else if e.kind=2 then qh6 e.mode&&decide (e.data.length≤4096)
 else if e.kind=3 then decide (e.mode=0)&&qdt e.data
 else false
def q41(x c:Ent):Bool:=!(decide (0≤qal (qaa x.path) (qaa c.path))&&!(decide (qal (qaa x.path) (qaa c.path)=0)&&decide (x.kind=1)&&decide (c.kind=5)))
def First(f:Nat→Bool)(n:Nat)(r:Int):Prop:=(∃i:Nat,i<n∧r=i∧f i=true∧∀j,j<i→f j=false)∨(r= -1∧∀j,j<n→f j=false)
theorem First.uniq{f g:Nat→Bool}{r s:Int}(h:First f n r)(k:First g n s)(e:∀i,i<n→(∀j,j<i→f j=false)→(∀j,j<i→g j=false)→f i=g i):r=s:=by
 have key:∀i,i≤n→(∀j,j<i→f j=false)→∀j,j<i→g j=false:=by
  intro i hi hf;intro j hj;induction j using Nat.strongRecOn with
  |ind j ih=>rw[←e j (by omega) (fun q hq=>hf q (by omega)) (fun q hq=>ih q hq (by omega))];exact hf j hj
 have key2:∀i,i≤n→(∀j,j<i→g j=false)→∀j,j<i→f j=false:=by
  intro i hi hg;intro j hj;induction j using Nat.strongRecOn with
  |ind j ih=>rw[e j (by omega) (fun q hq=>ih q hq (by omega)) (fun q hq=>hg q (by omega))];exact hg j hj
 rcases h with⟨i,hi,rfl,h1,h2⟩|⟨rfl,h2⟩
 ·rcases k with⟨m,hm,rfl,k1,k2⟩|⟨rfl,k2⟩
  ·rcases Nat.lt_trichotomy i m with h|h|h
   ·have:=key2 m (by omega) k2 i h;rw[h1] at this;cases this
   ·rw[h]
   ·have:=key i (by omega) h2 m h;rw[k1] at this;cases this
  ·have:=key2 n (Nat.le_refl _) k2 i hi;rw[h1] at this;cases this
 ·rcases k with⟨m,hm,rfl,k1,k2⟩|⟨rfl,k2⟩
  ·have:=key n (Nat.le_refl _) h2 m hm;rw[k1] at this;cases this
  ·rfl
open Go.RowKit
theorem qgq{wr:World}{A:Option Addr}{l:List Ent}(hr:Rd w A (ents l))(hbel:Below w.heap.size w wr)(k:Nat)(hlt:k<l.length):
 ∃b o,A=some ⟨b,o,none⟩∧b<w.heap.size∧wr.cell? ⟨b,o+k*4,none⟩=some (.string (S l[k].path))∧wr.cell? ⟨b,o+k*4+1,none⟩=some (.int .i64 l[k].kind)∧
  wr.cell? ⟨b,o+k*4+2,none⟩=some (.int .i64 l[k].mode)∧wr.cell? ⟨b,o+k*4+3,none⟩=some (.string (S l[k].data)):=by
 obtain⟨b,o,rfl,hbb,hc⟩:=hr.at (k*4) (by rw[q3i];omega);obtain⟨c0,c1,c2,c3⟩:=q3j l k hlt;exact⟨b,o,rfl,hbb,(hbel.cell (p:=⟨b,o+k*4,none⟩) hbb).trans (hc _ _ c0),(hbel.cell (p:=⟨b,o+(k*4+1),none⟩) hbb).trans (hc _ _ c1),
  (hbel.cell (p:=⟨b,o+(k*4+2),none⟩) hbb).trans (hc _ _ c2),(hbel.cell (p:=⟨b,o+(k*4+3),none⟩) hbb).trans (hc _ _ c3)⟩
def Cell4(W:World)(g:Nat)(c:Ent):Prop:=
 W.cell? ⟨g,0,none⟩=some (.string (S c.path))∧W.cell? ⟨g,1,none⟩=some (.int .i64 c.kind)∧W.cell? ⟨g,2,none⟩=some (.int .i64 c.mode)∧W.cell? ⟨g,3,none⟩=some (.string (S c.data))
theorem Cell4.below{c:Ent}(h:Cell4 W g c)(hb:Below W.heap.size W W'):Cell4 W' g c:=by
 obtain⟨h0,h1,h2,h3⟩:=h;have hg:g<W.heap.size:=q6r W _ h0;exact⟨(hb.cell (p:=⟨g,0,none⟩) hg).trans h0,(hb.cell (p:=⟨g,1,none⟩) hg).trans h1,(hb.cell (p:=⟨g,2,none⟩) hg).trans h2,(hb.cell (p:=⟨g,3,none⟩) hg).trans h3⟩
theorem Cell4.new(w:World)(c:Ent)(t:TypeId):Cell4 (w.alloc (.cells #[.string (S c.path),.int .i64 c.kind,.int .i64 c.mode,.string (S c.data)] t)) w.heap.size c:=by
 refine⟨?_,?_,?_,?_⟩ <;> rw[World.cell?_alloc_at _ _ _ _ (by simp)] <;> rfl
theorem qlf(h:qal a b=0):a=b:=by
 induction a generalizing b with
 |nil=>
  cases b with
  |nil=>rfl
  |cons y ys=>simp only[qal,List.length_nil,List.length_cons] at h;omega
 |cons x xs ih=>
  cases b with
  |nil=>simp only[qal,List.length_nil,List.length_cons] at h;omega
  |cons y ys=>
   rw[qal] at h;split at h
   ·omega
   ·split at h
    ·omega
    ·rename_i h1 h2
     rw[List.le_antisymm (List.not_lt.1 h2) (List.not_lt.1 h1),ih h]
theorem qe8(a:List (List UInt8)):qal a a=0:=by
 induction a with
 |nil=>rfl
 |cons x xs ih=>rw[qal,if_neg (List.lt_irrefl x),if_neg (List.lt_irrefl x),ih]
theorem qhf{c:List (List UInt8)}(h1:qal a b<0)(h2:qal b c<0):qal a c<0:=by
 induction a generalizing b c with
 |nil=>
  cases c with
  |nil=>
   cases b with
   |nil=>exact h1
   |cons y ys=>simp only[qal,List.length_nil,List.length_cons] at h2;omega
  |cons z zs=>simp only[qal,List.length_nil,List.length_cons];omega
 |cons x xs ih=>
  cases b with
  |nil=>simp only[qal,List.length_nil,List.length_cons] at h1;omega
  |cons y ys=>
   cases c with
   |nil=>simp only[qal,List.length_nil,List.length_cons] at h2;omega
   |cons z zs=>
    rw[qal] at h1 h2 ⊢;by_cases hxy:x<y
    ·by_cases hyz:y<z
     ·rw[if_pos (List.lt_trans hxy hyz)];omega
     ·rw[if_neg hyz] at h2
      by_cases hzy:z<y
      ·rw[if_pos hzy] at h2;omega
      ·have e:y=z:=List.le_antisymm (List.not_lt.1 hzy) (List.not_lt.1 hyz)
       subst e;rw[if_pos hxy];omega
    ·rw[if_neg hxy] at h1
     by_cases hyx:y<x
     ·rw[if_pos hyx] at h1;omega
     ·rw[if_neg hyx] at h1
      have e:x=y:=List.le_antisymm (List.not_lt.1 hyx) (List.not_lt.1 hxy);subst e;by_cases hyz:x<z
      ·rw[if_pos hyz];omega
      ·rw[if_neg hyz] at h2 ⊢
       by_cases hzy:z<x
       ·rw[if_pos hzy] at h2;omega
       ·rw[if_neg hzy] at h2 ⊢
        exact ih h1 h2
theorem qko(c:UInt8)(p r:List UInt8):cutB c (p++c::r)=cutB c p++cutB c r:=by
 induction p with
 |nil=>simp[cutB]
 |cons x p ih=>
  rw[List.cons_append,cutB,cutB];split
  ·rw[ih];rfl
  ·rw[ih]
   cases h:cutB c p with
   |nil=>exact absurd h (qis c p)
   |cons a t=>rfl
theorem qjc(p:List UInt8):qa0 (cutB 47 p)=p:=by
 induction p with
 |nil=>rfl
 |cons x p ih=>
  rw[cutB];split
  ·rename_i h
   subst h;cases h2:cutB 47 p with
   |nil=>exact absurd h2 (qis 47 p)
   |cons a t=>rw[qa0,←h2,ih];rfl
  ·cases h2:cutB 47 p with
   |nil=>exact absurd h2 (qis 47 p)
   |cons a t=>
    rw[h2] at ih;cases t with
    |nil=>simp only[qa0] at ih ⊢;rw[ih]
    |cons b u=>simp only[qa0,List.cons_append] at ih ⊢;rw[ih]
theorem qlp(a b:List (List UInt8))(ha:a≠[])(hb:b≠[]):qa0 (a++b)=qa0 a++47::qa0 b:=by
 induction a with
 |nil=>exact absurd rfl ha
 |cons x r ih=>
  cases r with
  |nil=>
   cases b with
   |nil=>exact absurd rfl hb
   |cons y s=>rfl
  |cons y s=>
   have:=ih (by simp);simp only[List.cons_append,qa0] at this ⊢;rw[this];simp
theorem qs8(hd:d≠[])(h:(d++[47]).isPrefixOf p=true):qaa d<+:qaa p:=by
 rw[List.isPrefixOf_iff_prefix] at h;obtain⟨r,rfl⟩:=h;have e:d++[47]++r=d++47::r:=by simp
 rw[e];unfold qaa;rw[if_neg hd,if_neg (by simp),qko];exact⟨_,rfl⟩
theorem qse(hd:d≠[])(h:qaa d<+:qaa p)(hne:qaa d≠qaa p):(d++[47]).isPrefixOf p=true:=by
 obtain⟨r,hr⟩:=h;have hp:p≠[]:=by
  intro e;subst e;have h1:qaa ([]:List UInt8)=[]:=rfl;rw[h1] at hr;have:=(List.append_eq_nil_iff.1 hr).1;unfold qaa at this;rw[if_neg hd] at this;exact qis _ _ this
 have hrn:r≠[]:=by intro e;subst e;rw[List.append_nil] at hr;exact hne hr
 unfold qaa at hr;rw[if_neg hd,if_neg hp] at hr;have:=congrArg qa0 hr;rw[qlp _ _ (qis _ _) hrn,qjc,qjc] at this;rw[List.isPrefixOf_iff_prefix];exact⟨qa0 r,by rw[←this];simp⟩
def qii(x:Ent):Bool:=!decide (x.kind=1)&&!decide (x.kind=5)
def qfz(pre:List Ent):Option (List UInt8):=(pre.filter qii).getLast?.map (fun x=>x.path++[47])
theorem qd8(pre:List Ent)(c:Ent):qfz (pre++[c])=if qii c then some (c.path++[47]) else qfz pre:=by
 unfold qfz;rw[List.filter_append];cases h:qii c <;> simp[h]
def qps(k:Nat)(c:Ent):Bool:=
 decide (k<80)&&qa5 c.path&&
 (if c.kind=4 then !c.path.isEmpty&&decide (c.mode=0)&&c.data.isEmpty
  else if c.kind=5 then decide (c.mode=0)&&c.data.isEmpty
  else !c.path.isEmpty&&qbh c)
def qoj(x c:Ent):Bool:=
 if qaq (qaa x.path) (qaa c.path)=0 then decide (x.kind=1)&&decide (c.kind=5) else !decide (0<qaq (qaa x.path) (qaa c.path))
def q4t(s:Option (List UInt8))(c:Ent):Bool:=match s with|some t=>t.isPrefixOf c.path|none=>false
def barP(l:List Ent)(k:Nat):Bool:=match l[k]? with
 |none=>false
 |some c=>!(qps k c&&(match l[k - 1]? with|some x=>decide (k=0) ||qoj x c|none=>true)) ||q4t (qfz (l.take k)) c
structure Nd where
 kind:Int
 mode:Int
 data:List UInt8
 deriving DecidableEq
abbrev Pth:=List (List UInt8)
abbrev qag:=Pth→Option Nd
structure IsTree(F:qag):Prop where
 up:∀p e,(F (p++[e])).isSome=true→∃x,F p=some x∧x.kind=1
 root:∃x,F []=some x∧x.kind=1
theorem IsTree.pre{F:qag}(h:IsTree F)(p q:Pth)(hp:F p=none):F (p++q)=none:=by
 suffices hh:∀n (q:Pth),q.length=n→F (p++q)=none from hh _ q rfl
 intro n;induction n with
 |zero=>intro q hq;rw[List.eq_nil_of_length_eq_zero hq,List.append_nil];exact hp
 |succ n ih=>
  intro q hq;rcases List.eq_nil_or_concat q with rfl|⟨q,e,rfl⟩
  ·simp at hq
  ·simp only[List.concat_eq_append] at hq ⊢
   cases hF:F (p++(q++[e])) with
   |none=>rfl
   |some x=>
    obtain⟨y,hy,_⟩:=h.up (p++q) e (by rw[List.append_assoc,hF];rfl);rw[ih q (by simpa using hq)] at hy;cases hy
def qg0:qag:=fun p=>if p=[] then some ⟨1,493,[]⟩ else none
theorem qly:IsTree qg0:=by
 refine⟨fun p e h=>?_,⟨_,rfl,rfl⟩⟩;unfold qg0 at h;rw[if_neg (by simp)] at h;cases h
def qaw(F:qag)(p:Pth):Bool:=match F p with|some x=>decide (x.kind=1)|none=>false
theorem qaj{F:qag}{p:Pth}:qaw F p=true↔∃x,F p=some x∧x.kind=1:=by
 unfold qaw;cases h:F p with
 |none=>simp
 |some x=>simp
def putF(F:qag)(p:Pth)(x:Nd):qag:=fun q=>if q=p then some x else if p<+:q then (if x.kind=1∧qaw F p=true then F q else none) else F q
def cutF(F:qag)(p:Pth):qag:=fun q=>if p<+:q then none else F q
theorem qe5{p q:Pth}(h:p<+:q++[e]):p<+:q∨p=q++[e]:=by
 obtain⟨r,hr⟩:=h;rcases List.eq_nil_or_concat r with rfl|⟨r,x,rfl⟩
 ·rw[List.append_nil] at hr;exact .inr hr
 ·simp only[List.concat_eq_append] at hr
  rw[←List.append_assoc] at hr;obtain⟨h1,h2⟩:=List.append_inj' hr rfl;exact .inl ⟨r,h1⟩
theorem qpz{F:qag}(h:IsTree F)(d:Pth)(e:List UInt8)(x:Nd)(hd:qaw F d=true):IsTree (putF F (d++[e]) x):=by
 obtain⟨y,hy,hk⟩:=qaj.1 hd;have hdne:∀q:Pth,d++[e]<+:q→q≠d:=by
  rintro q ⟨r,rfl⟩ he;have:=congrArg List.length he;simp at this
 refine⟨fun p f hf=>?_,?_⟩
 ·unfold putF at hf ⊢
  by_cases e1:p++[f]=d++[e]
  ·obtain⟨rfl,_⟩:=List.append_inj' e1 rfl
   rw[if_neg (by intro e2;have:=congrArg List.length e2;simp at this),if_neg (fun hp=>hdne _ hp rfl)];exact⟨y,hy,hk⟩
  ·rw[if_neg e1] at hf
   by_cases e2:d++[e]<+:p++[f]
   ·rw[if_pos e2] at hf
    have e3:d++[e]<+:p:=by
     rcases qe5 e2 with h3|h3
     ·exact h3
     ·exact absurd h3.symm e1
    by_cases e4:x.kind=1∧qaw F (d++[e])=true
    ·rw[if_pos e4] at hf
     by_cases e5:p=d++[e]
     ·rw[if_pos e5];exact⟨x,rfl,e4.1⟩
     ·rw[if_neg e5,if_pos e3,if_pos e4];exact h.up p f hf
    ·rw[if_neg e4] at hf;cases hf
   ·rw[if_neg e2] at hf
    have e3:¬d++[e]<+:p:=fun hp=>e2 (hp.trans (List.prefix_append _ _))
    rw[if_neg (show ¬p=d++[e] from fun e5=>e3 (e5▸List.prefix_rfl)),if_neg e3];exact h.up p f hf
 ·obtain⟨r,hr,hrk⟩:=h.root
  unfold putF;rw[if_neg (by simp),if_neg (by rintro⟨t,ht⟩;have:=congrArg List.length ht;simp at this)];exact⟨r,hr,hrk⟩
theorem q0l{F:qag}(h:IsTree F)(p:Pth)(hp:p≠[]):IsTree (cutF F p):=by
 refine⟨fun q f hf=>?_,?_⟩
 ·unfold cutF at hf ⊢
  by_cases e:p<+:q++[f]
  ·rw[if_pos e] at hf;cases hf
  ·rw[if_neg e] at hf
   rw[if_neg (fun h2=>e (h2.trans (List.prefix_append _ _)))];exact h.up q f hf
 ·obtain⟨r,hr,hrk⟩:=h.root
  unfold cutF;rw[if_neg (by rw[List.prefix_nil];exact hp)];exact⟨r,hr,hrk⟩
def ndOf(x:Ent):Nd:=⟨x.kind,x.mode,x.data⟩
def layF(F:qag)(l:List Ent):qag:=l.foldl (fun F e=>putF F (qaa e.path) (ndOf e)) F
def qav(l:List Ent):qag:=layF qg0 l
theorem qlm(F:qag)(l:List Ent)(e:Ent):layF F (l++[e])=putF (layF F l) (qaa e.path) (ndOf e):=by unfold layF;rw[List.foldl_append];rfl
theorem qid(l:List Ent)(k:Nat)(h:k<l.length):qav (l.take (k+1))=putF (qav (l.take k)) (qaa l[k].path) (ndOf l[k]):=by
 rw[List.take_succ_eq_append_getElem h];exact qlm _ _ _
def qcw(l:List Ent)(k:Nat):Bool:=match l[k]? with
 |none=>false
 |some c=>decide (k=40) ||c.path.isEmpty ||!qa5 c.path ||!qbh c ||(match l[k - 1]? with|some x=>decide (0<k)&&decide (0≤qaq (qaa x.path) (qaa c.path))|none=>false) ||!qaw (qav (l.take k)) (qaa c.path).dropLast
theorem qco{l:List Ent}{c:Ent}(h:l[k]? =some c):qcw l k=(decide (k=40) ||c.path.isEmpty ||!qa5 c.path ||!qbh c ||(match l[k - 1]? with|some x=>decide (0<k)&&decide (0≤qaq (qaa x.path) (qaa c.path))|none=>false) ||!qaw (qav (l.take k)) (qaa c.path).dropLast):=by unfold qcw;rw[h]
def octB(n:Nat):List UInt8:=if n<8 then [UInt8.ofNat (48+n)] else octB (n / 8)++[UInt8.ofNat (48+n %8)]
theorem qf4(h:n<8):octB n=[UInt8.ofNat (48+n)]:=by rw[octB,if_pos h]
theorem qkk(h:¬n<8):octB n=octB (n / 8)++[UInt8.ofNat (48+n %8)]:=by rw[octB,if_neg h]
theorem qoi(n:Nat):0<(octB n).length:=by
 by_cases h:n<8
 ·rw[qf4 h];simp
 ·rw[qkk h];simp
theorem qgi(n:Nat)(k:Nat)(h:n<8^(k+1)):(octB n).length≤k+1:=by
 induction k generalizing n with
 |zero=>rw[qf4 (by simpa using h)];simp
 |succ k ih=>
  by_cases h8:n<8
  ·rw[qf4 h8];simp
  ·rw[qkk h8]
   have:=ih (n / 8) (by rw[Nat.div_lt_iff_lt_mul (by omega)];rw[Nat.pow_succ] at h;exact h);simp only[List.length_append,List.length_singleton];omega
def namB(c:Ent):List UInt8:=
 if c.kind=1 then c.path++[47] else if c.kind=4 then inB (upB c.path).1 ([46,119,104,46]++(upB c.path).2)
 else if c.kind=5 then inB c.path [46,119,104,46,46,119,104,46,46,111,112,113] else c.path
def sumB(l:List UInt8):Nat:=(l.map UInt8.toNat).sum
theorem qyb(l:List UInt8):sumB l≤l.length*255:=by
 induction l with
 |nil=>simp[sumB]
 |cons c r ih=>have:=c.toNat_lt;simp only[sumB,List.map_cons,List.sum_cons,List.length_cons] at*;omega
theorem qya(l:List UInt8)(k:Nat)(h:k<l.length):sumB (l.take (k+1))=sumB (l.take k)+l[k].toNat:=by
 rw[List.take_succ_eq_append_getElem h];simp only[sumB,List.map_append,List.sum_append,List.map_cons,List.map_nil,List.sum_cons,List.sum_nil,Nat.add_zero]
def qw1(c:Ent):UInt8:=if c.kind=1 then 53 else if c.kind=3 then 50 else 48
def qqe(c:Ent):List UInt8:=if c.kind=3 then c.data else []
def qkg(c:Ent):List UInt8:=if c.kind=2 then c.data else []
structure NameE(es:List (List UInt8)):Prop where
 ne:es≠[]
 each:∀e∈es,(47:UInt8)∉e∧e.length≤64
 inner:∀k (_:k+1<es.length),es[k]≠[]
 first:es.head?≠some []
theorem qbx(h:qba e=true):e≠[]∧e.length≤60∧(47:UInt8)∉e:=by
 unfold qba at h;simp only[Bool.and_eq_true,Bool.not_eq_true',decide_eq_true_eq] at h;obtain⟨⟨⟨⟨⟨h1,h2⟩,_⟩,_⟩,_⟩,h6⟩:=h;refine⟨(by intro e0;rw[e0] at h1;cases h1),h2,fun hm=>?_⟩;have:=List.all_eq_true.1 h6 _ hm;revert this;decide
theorem qbb(h:qa5 p=true):p.length≤170∧∀e∈qaa p,qba e=true:=by
 unfold qa5 at h;simp only[Bool.and_eq_true,decide_eq_true_eq] at h;exact⟨h.1.1,fun e he=>List.all_eq_true.1 h.2 e he⟩
theorem qcs(h:p≠[]):qaa p≠[]:=by unfold qaa;rw[if_neg h];exact qis _ _
theorem qck(p:List UInt8):qa0 (qaa p)=p:=by
 unfold qaa;split
 ·rename_i h;rw[h];rfl
 ·exact qjc p
theorem qqh(h:∀e∈l,e≠[])(hn:l≠[]):qa0 l≠[]:=by
 cases l with
 |nil=>exact absurd rfl hn
 |cons x r=>
  cases r with
  |nil=>exact h x (by simp)
  |cons y s=>rw[qa0];intro e;have:=congrArg List.length e;simp at this
theorem qt2{x:List UInt8}(h:∀e∈l,e≠[])(hx:x≠[]):inB (qa0 l) x=qa0 (l++[x]):=by
 unfold inB;by_cases hl:l=[]
 ·subst hl;rw[if_pos (.inl rfl)];rfl
 ·rw[if_neg (by rintro(e|e);exact qqh h hl e;exact hx e),qwg _ _ hl]
theorem q3q(h:∀e∈l,(47:UInt8)∉e)(hl:l≠[]):cutB 47 (qa0 l)=l:=by
 induction l with
 |nil=>exact absurd rfl hl
 |cons x r ih=>
  cases r with
  |nil=>exact ql0 47 x (h x (by simp))
  |cons y s=>
   rw[qa0,qw6 47 x _ (h x (by simp)),ih (fun e he=>h e (by simp only[List.mem_cons] at he ⊢;exact .inr he)) (by simp)]
theorem qe7(h:∀e∈l,e≠[]∧(47:UInt8)∉e):qaa (qa0 l)=l:=by
 by_cases hl:l=[]
 ·subst hl;rfl
 ·unfold qaa
  rw[if_neg (qqh (fun e he=>(h e he).1) hl)];exact q3q (fun e he=>(h e he).2) hl
def qb3(l:List Ent)(p:List UInt8):Int:=if p=[] then 1 else match l.find? (fun e=>decide (e.path=p)) with|some e=>e.kind|none=>0
def qo5(l:List Ent)(i:Nat):Bool:=match l[i]? with
 |none=>false
 |some c=>decide (i=40) ||!qa5 c.path ||!qbh c ||c.path.isEmpty ||(match l[i - 1]? with|some x=>decide (0<i)&&decide (0≤qal (qaa x.path) (qaa c.path))|none=>false) ||!decide (qb3 (l.take i) (upB c.path).1=1)
theorem qo4{l:List Ent}{c:Ent}(h:l[i]? =some c):qo5 l i=(decide (i=40) ||!qa5 c.path ||!qbh c ||c.path.isEmpty ||(match l[i - 1]? with|some x=>decide (0<i)&&decide (0≤qal (qaa x.path) (qaa c.path))|none=>false) ||!decide (qb3 (l.take i) (upB c.path).1=1)):=by unfold qo5;rw[h]
theorem qe1{q:List UInt8}(h:qaa p=qaa q):p=q:=by rw[←qck p,h,qck q]
structure Lists(l:List Ent)(F:qag):Prop where
 each:∀e∈l,qa5 e.path=true∧e.path≠[]∧qbh e=true
 mem:∀e∈l,F (qaa e.path)=some (ndOf e)
 only:∀p x,F p=some x→p=[]∨∃e∈l,qaa e.path=p∧ndOf e=x
 root:F []=some ⟨1,493,[]⟩
 rise:l.Pairwise fun a b=>qal (qaa a.path) (qaa b.path)<0
theorem Lists.nil:Lists [] qg0:=by
 refine⟨fun e he=>by simp at he,fun e he=>by simp at he,fun p x hx=>?_,rfl,List.Pairwise.nil⟩;unfold qg0 at hx;split at hx
 ·rename_i h;exact .inl h
 ·cases hx
theorem qog(h:a<+:b)(hne:b≠a):qal b a>0:=by
 induction a generalizing b with
 |nil=>
  cases b with
  |nil=>exact absurd rfl hne
  |cons y ys=>simp only[qal,List.length_nil,List.length_cons];omega
 |cons x xs ih=>
  obtain⟨r,rfl⟩:=h;rw[List.cons_append,qal,if_neg (List.lt_irrefl x),if_neg (List.lt_irrefl x)];exact ih ⟨r,rfl⟩ (fun e=>hne (by rw[List.cons_append,e]))
theorem qlg(h:qal a b<0):0<qal b a:=by
 induction a generalizing b with
 |nil=>
  cases b with
  |nil=>simp[qal] at h
  |cons y ys=>simp only[qal,List.length_nil,List.length_cons];omega
 |cons x xs ih=>
  cases b with
  |nil=>simp only[qal,List.length_nil,List.length_cons] at h;omega
  |cons y ys=>
   rw[qal] at h ⊢;by_cases hxy:x<y
   ·rw[if_neg (fun h2=>List.lt_irrefl x (List.lt_trans hxy h2)),if_pos hxy];omega
   ·rw[if_neg hxy] at h
    by_cases hyx:y<x
    ·rw[if_pos hyx] at h;omega
    ·rw[if_neg hyx] at h
     rw[if_neg hyx,if_neg hxy];exact ih h
theorem Lists.snoc{l:List Ent}{F:qag}(h:Lists l F)(c:Ent)(hp:qa5 c.path=true)(hne:c.path≠[])(hg:qbh c=true)(hlt:∀e∈l,qal (qaa e.path) (qaa c.path)<0):Lists (l++[c]) (putF F (qaa c.path) (ndOf c)):=by
 have hLne:=qcs hne;have hun:∀q,qaa c.path<+:q→q≠qaa c.path→F q=none:=by
  intro q hq hqne;cases hF:F q with
  |none=>rfl
  |some x=>
   rcases h.only q x hF with rfl|⟨e,he,rfl,_⟩
   ·exact absurd (List.prefix_nil.1 hq) hLne
   ·have h1:=hlt e he
    have h2:=qog hq hqne;omega
 have hself:F (qaa c.path)=none:=by
  cases hF:F (qaa c.path) with
  |none=>rfl
  |some x=>
   rcases h.only _ x hF with he|⟨e,he,hq,_⟩
   ·exact absurd he hLne
   ·have h1:=hlt e he
    rw[hq,qe8] at h1;omega
 have hput:∀q,q≠qaa c.path→putF F (qaa c.path) (ndOf c) q=F q:=by
  intro q hq;unfold putF;rw[if_neg hq];by_cases hpq:qaa c.path<+:q
  ·rw[if_pos hpq,hun q hpq hq];split <;> rfl
  ·rw[if_neg hpq]
 have hsame:putF F (qaa c.path) (ndOf c) (qaa c.path)=some (ndOf c):=by unfold putF;rw[if_pos rfl]
 refine⟨fun e he=>?_,fun e he=>?_,fun p x hx=>?_,?_,?_⟩
 ·rcases List.mem_append.1 he with he|he
  ·exact h.each e he
  ·rw[List.mem_singleton.1 he];exact⟨hp,hne,hg⟩
 ·rcases List.mem_append.1 he with he|he
  ·rw[hput _ (fun e2=>by have:=hlt e he;rw[e2,qe8] at this;omega)]
   exact h.mem e he
  ·rw[List.mem_singleton.1 he];exact hsame
 ·by_cases e1:p=qaa c.path
  ·rw[e1,hsame] at hx
   exact .inr ⟨c,by simp,e1.symm,Option.some.inj hx⟩
  ·rw[hput p e1] at hx
   rcases h.only p x hx with h1|⟨e,he,h1⟩
   ·exact .inl h1
   ·exact .inr ⟨e,by simp[he],h1⟩
 ·rw[hput [] hLne.symm];exact h.root
 ·rw[List.pairwise_append]
  exact⟨h.rise,by simp,fun x hx y hy=>by rw[List.mem_singleton.1 hy];exact hlt x hx⟩
theorem q17{l:List Ent}{c x:Ent}(h:l.Pairwise fun a b=>qal (qaa a.path) (qaa b.path)<0)(hx:l.getLast? =some x)(hc:qal (qaa x.path) (qaa c.path)<0):∀e∈l,qal (qaa e.path) (qaa c.path)<0:=by
 intro e he;obtain⟨q,rfl⟩:∃q,l=q++[x]:=by
  rcases List.eq_nil_or_concat l with rfl|⟨q,y,rfl⟩
  ·simp at hx
  ·rw[List.concat_eq_append] at hx ⊢
   rw[List.getLast?_concat] at hx;exact⟨q,by rw[Option.some.inj hx]⟩
 rcases List.mem_append.1 he with he|he
 ·exact qhf ((List.pairwise_append.1 h).2.2 e he x (by simp)) hc
 ·rw[List.mem_singleton.1 he];exact hc
theorem qjy{l:List Ent}(hk:k≤l.length)(h:∀j,j<k→qcw l j=false):Lists (l.take k) (qav (l.take k)):=by
 induction k with
 |zero=>exact Lists.nil
 |succ k ih=>
  have hlt:k<l.length:=hk;have hL:=ih (by omega) (fun j hj=>h j (by omega));have hw:=h k (by omega);have hc:l[k]? =some l[k]:=List.getElem?_eq_getElem hlt;rw[qco hc] at hw;simp only[Bool.or_eq_false_iff,Bool.not_eq_false'] at hw;obtain⟨⟨⟨⟨⟨_,h2⟩,h3⟩,h4⟩,h5⟩,_⟩:=hw;have hne:l[k].path≠[]:=fun e=>by rw[e] at h2;cases h2
  rw[qid l k hlt,List.take_succ_eq_append_getElem hlt];refine hL.snoc l[k] h3 hne h4 ?_;by_cases h0:k=0
  ·subst h0;intro e he;simp at he
  ·have hx:l[k - 1]? =some (l[k - 1]'(by omega)):=List.getElem?_eq_getElem (by omega)
   rw[hx] at h5;have h6:¬(0≤qaq (qaa (l[k - 1]'(by omega)).path) (qaa l[k].path)):=by
    intro hc0;have h5':(decide (0<k)&&decide (0≤qaq (qaa (l[k - 1]'(by omega)).path) (qaa l[k].path)))=false:=h5;rw[decide_eq_true (by omega:0<k),decide_eq_true hc0] at h5';cases h5'
   have h7:=(qjg (qaa (l[k - 1]'(by omega)).path) (qaa l[k].path)).2.2.1 (by omega);refine q17 hL.rise (x:=l[k - 1]'(by omega)) ?_ h7;rw[List.getLast?_eq_getElem?,List.length_take,List.getElem?_take_of_lt (by omega),show min k l.length - 1=k - 1 by omega,hx]
theorem qjb{l:List Ent}{F:qag}(h:Lists l F)(d:List UInt8)(hd:d=[]∨d≠[]):decide (qb3 l d=1)=qaw F (qaa d):=by
 unfold qb3 qaw;by_cases h0:d=[]
 ·subst h0
  rw[if_pos rfl,show qaa ([]:List UInt8)=[] from rfl,h.root]
 ·rw[if_neg h0]
  cases hf:l.find? (fun e=>decide (e.path=d)) with
  |some e=>
   have h1:=List.find?_some hf;have h2:=List.mem_of_find?_eq_some hf;have h3:e.path=d:=by simpa using h1
   rw[←h3,h.mem e h2];rfl
  |none=>
   cases hF:F (qaa d) with
   |none=>rfl
   |some x=>
    rcases h.only _ x hF with h1|⟨e,he,h1,_⟩
    ·exact absurd h1 (qcs h0)
    ·have:=List.find?_eq_none.1 hf e he
     rw[qe1 h1] at this;simp at this
theorem qmo{l:List Ent}(hi:i<l.length)(h:∀j,j<i→qcw l j=false):qcw l i=qo5 l i:=by
 have hc:l[i]? =some l[i]:=List.getElem?_eq_getElem hi;rw[qco hc,qo4 hc];cases hpb:qa5 l[i].path with
 |false=>simp
 |true=>
  have e1:qaw (qav (l.take i)) (qaa l[i].path).dropLast=decide (qb3 (l.take i) (upB l[i].path).1=1):=by
   rw[qjb (qjy (by omega) h) _ (Classical.em _)];congr 1
   unfold upB;have hok:=(qbb hpb).2;refine(qe7 fun e he=>?_).symm;have:=qbx (hok e (List.dropLast_subset _ he));exact⟨this.1,this.2.2⟩
  have e2:∀x:Ent,decide (0≤qaq (qaa x.path) (qaa l[i].path))=decide (0≤qal (qaa x.path) (qaa l[i].path)):=by
   intro x;obtain⟨s1,s2,s3⟩:=qjg (qaa x.path) (qaa l[i].path);by_cases hc0:qaq (qaa x.path) (qaa l[i].path)<0
   ·have:=s3.1 hc0
    rw[decide_eq_false (by omega),decide_eq_false (by omega)]
   ·have:¬qal (qaa x.path) (qaa l[i].path)<0:=fun h2=>hc0 (s3.2 h2)
    rw[decide_eq_true (by omega),decide_eq_true (by omega)]
  rw[e1];cases hx:l[i - 1]? with
  |none=>cases l[i].path.isEmpty <;> cases qbh l[i] <;> simp
  |some x=>
   simp only[e2 x];cases l[i].path.isEmpty <;> cases qbh l[i] <;> simp
abbrev qif:TypeId:=166
abbrev q6i:TypeId:=160
def mapV(x:Nd)(b:Nat):Value:=if x.kind=1 then .map (some b) else .map none
def qsk(x:Nd)(b:Nat):Array Value:=#[.string (S []),.int .i64 x.kind,.int .i64 x.mode,.string (S x.data),mapV x b]
def qdq(F:qag)(a:Pth→Nat)(p:Pth):List UInt8→Option Nat:=fun e=>if (F (p++[e])).isSome then some (a (p++[e])) else none
structure TreeAt(w:World)(B N:Nat)(a m:Pth→Nat)(F:qag):Prop where
 tree:IsTree F
 node:∀p x,F p=some x→w.heap[a p]? =some (.cells (qsk x (m p)) qif (0,0))
 dir:∀p x,F p=some x→x.kind=1→MapIs w (m p) N (qdq F a p)
 base:∀p x,F p=some x→B≤a p∧(x.kind=1→B≤m p)
 inj:∀p q,(F p).isSome=true→(F q).isSome=true→a p=a q→p=q
 injm:∀p q,qaw F p=true→qaw F q=true→m p=m q→p=q
theorem TreeAt.lt{a m:Pth→Nat}{F:qag}(h:TreeAt w B N a m F)(p:Pth)(x:Nd)(hx:F p=some x):a p<w.heap.size∧(x.kind=1→m p<w.heap.size):=
 ⟨(q6s (h.node p x hx)).1,fun hk=>(h.dir p x hx hk).lt⟩
theorem TreeAt.keep{a m:Pth→Nat}{F:qag}(h:TreeAt w B N a m F)(hb:∀k,B≤k→k<w.heap.size→w'.heap[k]? =w.heap[k]?):TreeAt w' B N a m F:=
 ⟨h.tree,fun p x hx=>(hb _ (h.base p x hx).1 (h.lt p x hx).1).trans (h.node p x hx),fun p x hx hk=>(h.dir p x hx hk).block (hb _ ((h.base p x hx).2 hk) ((h.lt p x hx).2 hk)),h.base,h.inj,h.injm⟩
theorem TreeAt.below{a m:Pth→Nat}{F:qag}(h:TreeAt w B N a m F)(hb:Below w.heap.size w w'):TreeAt w' B N a m F:=h.keep fun k _ hk=>hb.block k hk
theorem TreeAt.mono{M:Nat}{a m:Pth→Nat}{F:qag}(h:TreeAt w B N a m F)(hM:N≤M):TreeAt w B M a m F:=
 ⟨h.tree,h.node,fun p x hx hk=>(h.dir p x hx hk).mono hM,h.base,h.inj,h.injm⟩
theorem TreeAt.cells{a m:Pth→Nat}{F:qag}(h:TreeAt w B N a m F)(p:Pth)(x:Nd)(hx:F p=some x):
 w.cell? ⟨a p,0,none⟩=some (.string (S []))∧w.cell? ⟨a p,1,none⟩=some (.int .i64 x.kind)∧w.cell? ⟨a p,2,none⟩=some (.int .i64 x.mode)∧w.cell? ⟨a p,3,none⟩=some (.string (S x.data))∧w.cell? ⟨a p,4,none⟩=some (mapV x (m p)):=by
 have:=h.node p x hx;refine⟨?_,?_,?_,?_,?_⟩ <;> rw[cell_of_row w _ _ _ _ _ this] <;> rfl
theorem TreeAt.look{a m:Pth→Nat}{F:qag}(h:TreeAt w B N a m F)(p:Pth)(x:Nd)(hx:F p=some x)(e:List UInt8)(he:e.length≤maxLen):
 (Instr.lookup tMap (mapV x (m p)) (.string (S e)) false).run Tryz.prog w= .ok (qv1 (if (F (p++[e])).isSome then some (a (p++[e])) else none)) w:=by
 unfold mapV;by_cases hk:x.kind=1
 ·rw[if_pos hk];exact(h.dir p x hx hk).look e he
 ·rw[if_neg hk]
  have:(F (p++[e])).isSome=false:=by
   cases hs:(F (p++[e])).isSome with
   |false=>rfl
   |true=>
    obtain⟨y,hy,hk2⟩:=h.tree.up p e hs;rw[hx] at hy;obtain rfl:=Option.some.inj hy;exact absurd hk2 hk
  rw[this];exact look_nil w e he
def TreeV(w:World)(t:Nat)(a:Pth→Nat):Prop:=w.cell? ⟨t,0,none⟩=some (.pointer (some ⟨a [],0,none⟩))
theorem TreeV.below{t:Nat}{a:Pth→Nat}(h:TreeV w t a)(hb:Below w.heap.size w w'):TreeV w' t a:=(hb.cell (q6r w _ h)).trans h
def updP(a:Pth→Nat)(p:Pth)(g:Nat):Pth→Nat:=fun q=>if q=p then g else a q
theorem qcr(a:Pth→Nat)(p:Pth)(g:Nat):updP a p g p=g:=by simp[updP]
theorem qa9{a:Pth→Nat}{p q:Pth}(h:q≠p):updP a p g q=a q:=by simp[updP,h]
theorem qe4(F:qag)(p:Pth)(x:Nd):putF F p x p=some x:=by simp[putF]
theorem qi2{F:qag}{p q:Pth}{x:Nd}(h:¬p<+:q):putF F p x q=F q:=by
 unfold putF;rw[if_neg (show ¬q=p from fun e=>h (e▸List.prefix_rfl)),if_neg h]
theorem qea{F:qag}{p q:Pth}{x:Nd}(h:p<+:q)(hne:q≠p):putF F p x q=if x.kind=1∧qaw F p=true then F q else none:=by
 unfold putF;rw[if_neg hne,if_pos h]
theorem qfk{F:qag}{p q:Pth}{x y:Nd}(hne:q≠p)(h:putF F p x q=some y):F q=some y:=by
 by_cases hp:p<+:q
 ·rw[qea hp hne] at h
  split at h
  ·exact h
  ·cases h
 ·rw[qi2 hp] at h;exact h
theorem qn3(d:Pth)(e:List UInt8):d++[e]≠d:=by intro h;have:=congrArg List.length h;simp at this
theorem qk4(d:Pth)(e:List UInt8):¬d++[e]<+:d:=by intro h;have:=h.length_le;simp only[List.length_append,List.length_singleton] at this;omega
theorem TreeAt.put{w1:World}{a m:Pth→Nat}{F:qag}(h:TreeAt w B N a m F)(d:Pth)(e:List UInt8)(x:Nd)(hd:qaw F d=true)(hB:B≤w.heap.size)
 (h1:Below w.heap.size w w1)(g mb:Nat)(hg:w.heap.size≤g)(hnode:w1.heap[g]? =some (.cells (qsk x mb) qif (0,0)))
 (hmb:x.kind=1→(qaw F (d++[e])=true→mb=m (d++[e]))∧(qaw F (d++[e])=false→w.heap.size≤mb∧MapIs w1 mb 0 (fun _=>none)))
 (hup:MapIs w2 (m d) (N+1) (upd (qdq F a d) e (some g)))(h2:w1.grownBy w2 (some (m d))):
 TreeAt w2 B (N+1) (updP a (d++[e]) g) (updP m (d++[e]) mb) (putF F (d++[e]) x):=by
 obtain⟨y,hy,hk⟩:=qaj.1 hd;have hmd:=h.dir d y hy hk;have hmdlt:=hmd.lt;have cellsStay:∀(k:Nat) (c:Array Value) (t:TypeId) (f:Nat×Nat),w.heap[k]? =some (Obj.cells c t f)→w2.heap[k]? =some (Obj.cells c t f):=by
  intro k c t f hkk;have hlt:=(q6s hkk).1;have e1:=(h1.block k hlt).trans hkk;refine(h2.block k (by have:=h1.size;omega) ?_).trans e1;intro he;have he2:k=m d:=Option.some.inj he;obtain⟨D,⟨es,clock,hm2,_⟩,_⟩:=hmd;rw[he2,hm2] at hkk;cases hkk
 have mapStay:∀(k n:Nat) (f:List UInt8→Option Nat),k≠m d→k<w.heap.size→MapIs w k n f→MapIs w2 k n f:=by
  intro k n f hne hlt hm;exact hm.block ((h2.block k (by have:=h1.size;omega) (fun he=>hne (Option.some.inj he))).trans (h1.block k hlt))
 have hnode2:w2.heap[g]? =some (.cells (qsk x mb) qif (0,0)):=by
  refine(h2.block g (q6s hnode).1 ?_).trans hnode;intro he;have:g=m d:=Option.some.inj he;omega
 have hdne:d≠d++[e]:=(qn3 d e).symm;have kidsSame:∀q z,q≠d→q≠d++[e]→putF F (d++[e]) x q=some z→qdq (putF F (d++[e]) x) (updP a (d++[e]) g) q=qdq F a q:=by
  intro q z hqd hqe hz;funext f
  unfold qdq;have hne:q++[f]≠d++[e]:=by
   intro he;exact hqd (List.append_inj' he rfl).1
  rw[qa9 hne];have:putF F (d++[e]) x (q++[f])=F (q++[f]):=by
   by_cases hp:d++[e]<+:q++[f]
   ·have hpq:d++[e]<+:q:=by
     rcases qe5 hp with h3|h3
     ·exact h3
     ·exact absurd h3.symm hne
    rw[qea hpq hqe] at hz;rw[qea hp hne];split at hz
    ·rename_i hc;rw[if_pos hc]
    ·cases hz
   ·exact qi2 hp
  rw[this]
 refine⟨qpz h.tree d e x hd,?_,?_,?_,?_,?_⟩
 ·intro q z hz
  by_cases hq:q=d++[e]
  ·subst hq
   rw[qe4] at hz;obtain rfl:=Option.some.inj hz;rw[qcr,qcr];exact hnode2
  ·rw[qa9 hq,qa9 hq]
   exact cellsStay _ _ _ _ (h.node q z (qfk hq hz))
 ·intro q z hz hzk
  by_cases hq:q=d++[e]
  ·subst hq
   rw[qe4] at hz;obtain rfl:=Option.some.inj hz;rw[qcr];obtain⟨hm1,hm2⟩:=hmb hzk;cases hdir:qaw F (d++[e]) with
   |true=>
    obtain⟨y2,hy2,hk2⟩:=qaj.1 hdir;have hold:=h.dir _ _ hy2 hk2;rw[hm1 hdir];have hne:m (d++[e])≠m d:=fun he=>qn3 d e (h.injm _ _ hdir hd he)
    have e1:qdq (putF F (d++[e]) x) (updP a (d++[e]) g) (d++[e])=qdq F a (d++[e]):=by
     funext f
     unfold qdq;have hne2:=qn3 (d++[e]) f;have e3:putF F (d++[e]) x (d++[e]++[f])=F (d++[e]++[f]):=by
      rw[qea (List.prefix_append _ _) hne2];exact if_pos ⟨hzk,hdir⟩
     rw[qa9 hne2,e3]
    rw[e1];exact(mapStay _ _ _ hne hold.lt hold).mono (Nat.le_succ _)
   |false=>
    obtain⟨hlt,hmade⟩:=hm2 hdir;have e1:qdq (putF F (d++[e]) x) (updP a (d++[e]) g) (d++[e])=fun _=>none:=by
     funext f
     unfold qdq;have e3:putF F (d++[e]) x (d++[e]++[f])=none:=by
      rw[qea (List.prefix_append _ _) (qn3 (d++[e]) f)];exact if_neg (by rw[hdir];simp)
     rw[e3];rfl
    rw[e1];exact((hmade.block (h2.block mb hmade.lt (fun he=>by have:mb=m d:=Option.some.inj he;omega))).mono (Nat.zero_le _))
  ·rw[qa9 hq]
   have hF:=qfk hq hz;by_cases hqd:q=d
   ·subst hqd
    have e1:qdq (putF F (q++[e]) x) (updP a (q++[e]) g) q=upd (qdq F a q) e (some g):=by
     funext f
     unfold qdq upd;by_cases hf:f=e
     ·subst hf;rw[if_pos rfl,qe4,qcr];rfl
     ·have hne:q++[f]≠q++[e]:=fun he=>hf (by have:=(List.append_inj' he rfl).2;simpa using this)
      rw[if_neg hf,qa9 hne,qi2];intro hp;rcases qe5 hp with h3|h3
      ·exact qk4 q e h3
      ·exact hne h3.symm
    rw[e1];exact hup
   ·have hold:=h.dir q z hF hzk
    rw[kidsSame q z hqd hq hz];have hne:m q≠m d:=fun he=>hqd (h.injm _ _ (qaj.2 ⟨z,hF,hzk⟩) hd he)
    exact(mapStay _ _ _ hne hold.lt hold).mono (Nat.le_succ _)
 ·intro q z hz
  by_cases hq:q=d++[e]
  ·subst hq
   rw[qe4] at hz;obtain rfl:=Option.some.inj hz;rw[qcr,qcr];refine⟨by omega,fun hzk=>?_⟩;obtain⟨hm1,hm2⟩:=hmb hzk;cases hdir:qaw F (d++[e]) with
   |true=>
    obtain⟨y2,hy2,hk2⟩:=qaj.1 hdir;rw[hm1 hdir];exact(h.base _ _ hy2).2 hk2
   |false=>have:=(hm2 hdir).1;omega
  ·rw[qa9 hq,qa9 hq];exact h.base q z (qfk hq hz)
 ·have key:∀q z,q≠d++[e]→putF F (d++[e]) x q=some z→a q<w.heap.size:=fun q z hq hz=>(h.lt q z (qfk hq hz)).1
  intro p q hp hq hpq;obtain⟨zp,hzp⟩:=Option.isSome_iff_exists.1 hp;obtain⟨zq,hzq⟩:=Option.isSome_iff_exists.1 hq;by_cases e1:p=d++[e]
  ·by_cases e2:q=d++[e]
   ·rw[e1,e2]
   ·subst e1
    rw[qcr,qa9 e2] at hpq;have:=key q zq e2 hzq;omega
  ·by_cases e2:q=d++[e]
   ·subst e2
    rw[qcr,qa9 e1] at hpq;have:=key p zp e1 hzp;omega
   ·rw[qa9 e1,qa9 e2] at hpq
    exact h.inj p q (by rw[qfk e1 hzp];rfl) (by rw[qfk e2 hzq];rfl) hpq
 ·have dirOld:∀q,q≠d++[e]→qaw (putF F (d++[e]) x) q=true→qaw F q=true:=by
   intro q hq hdq;obtain⟨z,hz,hzk⟩:=qaj.1 hdq;exact qaj.2 ⟨z,qfk hq hz,hzk⟩
  have dirNew:qaw (putF F (d++[e]) x) (d++[e])=true→x.kind=1:=by
   intro hdq;obtain⟨z,hz,hzk⟩:=qaj.1 hdq;rw[qe4] at hz;obtain rfl:=Option.some.inj hz;exact hzk
  have lt:∀q,qaw F q=true→m q<w.heap.size:=by
   intro q hdq;obtain⟨z,hz,hzk⟩:=qaj.1 hdq;exact(h.lt q z hz).2 hzk
  have key:∀q,q≠d++[e]→qaw (putF F (d++[e]) x) (d++[e])=true→qaw (putF F (d++[e]) x) q=true→mb=m q→False:=by
   intro q hq hdn hdq he;obtain⟨hm1,hm2⟩:=hmb (dirNew hdn);have hq2:=dirOld q hq hdq;cases hdir:qaw F (d++[e]) with
   |true=>rw[hm1 hdir] at he;exact hq (h.injm _ _ hdir hq2 he).symm
   |false=>have:=(hm2 hdir).1;have:=lt q hq2;omega
  intro p q hp hq hpq;by_cases e1:p=d++[e]
  ·by_cases e2:q=d++[e]
   ·rw[e1,e2]
   ·subst e1
    rw[qcr,qa9 e2] at hpq;exact absurd hpq (fun he=>key q e2 hp hq he)
  ·by_cases e2:q=d++[e]
   ·subst e2
    rw[qcr,qa9 e1] at hpq;exact absurd hpq.symm (fun he=>key p e1 hq hp he)
   ·rw[qa9 e1,qa9 e2] at hpq
    exact h.injm p q (dirOld p e1 hp) (dirOld q e2 hq) hpq
theorem TreeAt.stay{a m:Pth→Nat}{F:qag}(h:TreeAt w B N a m F)(d:Pth)(hd:qaw F d=true)(h2:w.grownBy w2 (some (m d))):
 (∀(k:Nat) (c:Array Value) (t:TypeId) (f:Nat×Nat),w.heap[k]? =some (Obj.cells c t f)→w2.heap[k]? =some (Obj.cells c t f))∧(∀(k n:Nat) (f:List UInt8→Option Nat),k≠m d→MapIs w k n f→MapIs w2 k n f):=by
 obtain⟨y,hy,hk⟩:=qaj.1 hd;have hmd:=h.dir d y hy hk;refine⟨fun k c t f hkk=>?_,fun k n f hne hm=>?_⟩
 ·refine(h2.block k (q6s hkk).1 ?_).trans hkk
  intro he;have he2:k=m d:=Option.some.inj he;obtain⟨D,⟨es,clock,hm2,_⟩,_⟩:=hmd;rw[he2,hm2] at hkk;cases hkk
 ·exact hm.block (h2.block k hm.lt (fun he=>hne (Option.some.inj he)))
theorem TreeAt.less{a m:Pth→Nat}{F G:qag}(h:TreeAt w B N a m F)(d:Pth)(hd:qaw F d=true)(h2:w.grownBy w2 (some (m d)))(hG:IsTree G)(hsub:∀q z,G q=some z→F q=some z)
 (hmap:MapIs w2 (m d) N (qdq G a d))(hsame:∀q z,q≠d→G q=some z→qdq G a q=qdq F a q):TreeAt w2 B N a m G:=by
 obtain⟨s1,s2⟩:=h.stay d hd h2;refine⟨hG,fun q z hz=>s1 _ _ _ _ (h.node q z (hsub q z hz)),fun q z hz hzk=>?_,fun q z hz=>h.base q z (hsub q z hz),fun p q hp hq=>?_,fun p q hp hq=>?_⟩
 ·by_cases hq:q=d
  ·subst hq;exact hmap
  ·rw[hsame q z hq hz]
   have hF:=hsub q z hz;exact s2 _ _ _ (fun he=>hq (h.injm _ _ (qaj.2 ⟨z,hF,hzk⟩) hd he)) (h.dir q z hF hzk)
 ·obtain⟨zp,hzp⟩:=Option.isSome_iff_exists.1 hp
  obtain⟨zq,hzq⟩:=Option.isSome_iff_exists.1 hq;exact h.inj p q (by rw[hsub _ _ hzp];rfl) (by rw[hsub _ _ hzq];rfl)
 ·obtain⟨zp,hzp,hkp⟩:=qaj.1 hp
  obtain⟨zq,hzq,hkq⟩:=qaj.1 hq;exact h.injm p q (qaj.2 ⟨zp,hsub _ _ hzp,hkp⟩) (qaj.2 ⟨zq,hsub _ _ hzq,hkq⟩)
theorem qos{F:qag}{p q:Pth}{z:Nd}(h:cutF F p q=some z):F q=some z∧¬p<+:q:=by
 unfold cutF at h;split at h
 ·cases h
 ·rename_i hp;exact⟨h,hp⟩
theorem qkn{F:qag}{p q:Pth}(h:¬p<+:q):cutF F p q=F q:=by unfold cutF;rw[if_neg h]
theorem q0m{F:qag}{p q:Pth}(h:p<+:q):cutF F p q=none:=by unfold cutF;rw[if_pos h]
theorem TreeAt.cut{a m:Pth→Nat}{F:qag}(h:TreeAt w B N a m F)(d:Pth)(e:List UInt8)(hd:qaw F d=true)
 (hdel:MapIs w2 (m d) N (upd (qdq F a d) e none))(h2:w.grownBy w2 (some (m d))):TreeAt w2 B N a m (cutF F (d++[e])):=by
 refine h.less d hd h2 (q0l h.tree _ (by simp)) (fun q z hz=>(qos hz).1) ?_ ?_
 ·have e1:qdq (cutF F (d++[e])) a d=upd (qdq F a d) e none:=by
   funext f
   unfold qdq upd;by_cases hf:f=e
   ·subst hf;rw[if_pos rfl,q0m List.prefix_rfl];rfl
   ·rw[if_neg hf,qkn]
    intro hp;rcases qe5 hp with h3|h3
    ·exact qk4 d e h3
    ·exact hf (by have:=(List.append_inj' h3 rfl).2;simpa using this.symm)
  rw[e1];exact hdel
 ·intro q z hq hz
  have hnp:=(qos hz).2;funext f
  unfold qdq;rw[qkn];intro hp;rcases qe5 hp with h3|h3
  ·exact hnp h3
  ·exact hq (List.append_inj' h3 rfl).1.symm
def entZ:Value:=.agg #[.string ByteArray.empty,.int .i64 0,.int .i64 0,.string ByteArray.empty]
theorem qji(w:World)(a b c d:Value)(t:TypeId)(B:Nat)(hB:w.heap.size=B):∀j u,[a,b,c,d][j]? =some u→(w.alloc (.cells #[a,b,c,d] t)).cell? ((⟨B,0,none⟩:Addr).add j)=some u:=by
 subst hB;intro j u h;match j,h with
 |0,h=>simp at h;subst h;simp[Addr.add]
 |1,h=>simp at h;subst h;simp[Addr.add]
 |2,h=>simp at h;subst h;simp[Addr.add]
 |3,h=>simp at h;subst h;simp[Addr.add]
abbrev OwnE(w:World)(B:Nat)(v:Value)(l:List Ent):Prop:=w.ownsRow B 47 4 v l.length (ents l)
theorem qof{v:Value}{l:List Ent}{k m:Int}(h:w.ownsRow B 47 4 v (l.length+1) (ents l++[.string (S p),.int .i64 k,.int .i64 m,.string (S d)])):OwnE w B v (l++[⟨p,k,m,d⟩]):=by
 unfold OwnE;rw[qt9,List.length_append,List.length_singleton];exact h
def q47(p:List UInt8)(self:Bool)(x:Ent):Bool:=!(qge x.path p ||(self&&decide (x.path=p)))
def qfi(l:List Ent)(p:List UInt8)(self:Bool):List Ent:=l.filter (q47 p self)
theorem Cell4.low{c:Ent}(h:Cell4 W g c)(hb:Below n W W')(hg:g<n):Cell4 W' g c:=by
 obtain⟨h0,h1,h2,h3⟩:=h;exact⟨(hb.cell (p:=⟨g,0,none⟩) hg).trans h0,(hb.cell (p:=⟨g,1,none⟩) hg).trans h1,(hb.cell (p:=⟨g,2,none⟩) hg).trans h2,(hb.cell (p:=⟨g,3,none⟩) hg).trans h3⟩
def qes(e:Ent)(both:Bool)(s:List Ent×Bool)(x:Ent):List Ent×Bool:=
 let s1:=if qal (qaa e.path) (qaa x.path)<0∧s.2=false then (s.1++[e],true) else s
 if qal (qaa e.path) (qaa x.path)=0∨(qge x.path e.path=true∧both=false) then s1 else (s1.1++[x],s1.2)
def q4x(e:Ent)(both:Bool)(l:List Ent):List Ent×Bool:=l.foldl (qes e both) ([],false)
def qtq(e:Ent)(s:List Ent×Bool):List Ent:=if s.2 then s.1 else s.1++[e]
def qh8(l:List Ent)(e:Ent):Bool:=decide (qb3 l e.path=1)&&decide (e.kind=1)
def putL(l:List Ent)(e:Ent):List Ent:=qtq e (q4x e (qh8 l e) l)
theorem qoa(e:Ent)(both:Bool)(s:List Ent×Bool)(x:Ent):(qes e both s x).1.length+(if (qes e both s x).2 then 0 else 1)≤s.1.length+(if s.2 then 0 else 1)+1:=by
 obtain⟨o,d⟩:=s;unfold qes;by_cases h1:qal (qaa e.path) (qaa x.path)<0∧d=false
 ·obtain⟨h1,rfl⟩:=h1
  simp only[h1,true_and,if_true];split <;> simp
 ·simp only[if_neg h1]
  split
  ·simp
  ·simp;omega
theorem q2b(t:List Ent)(e:Ent):(putL t e).length≤t.length+1:=by
 have:∀(l:List Ent) (s:List Ent×Bool),(l.foldl (qes e (qh8 t e)) s).1.length+(if (l.foldl (qes e (qh8 t e)) s).2 then 0 else 1)≤s.1.length+(if s.2 then 0 else 1)+l.length:=by
  intro l;induction l with
  |nil=>intro s;exact Nat.le_refl _
  |cons x r ih=>intro s;rw[List.foldl_cons];have:=ih (qes e (qh8 t e) s x);have:=qoa e (qh8 t e) s x;simp only[List.length_cons];omega
 have h:=this t ([],false);unfold putL q4x qtq;generalize t.foldl (qes e (qh8 t e)) ([],false)=r at h ⊢;cases hr:r.2 <;> simp[hr] at h ⊢ <;> omega
def fldB(b:List UInt8):List UInt8:=b.takeWhile fun c=>c != 0
theorem q5f(h:∀c∈s,c≠0)(r:List UInt8):fldB (s++0::r)=s:=by
 unfold fldB;rw[List.takeWhile_append_of_pos (by simpa using h)];simp
theorem q5g(h:∀c∈s,c≠0):fldB s=s:=by
 have:=List.takeWhile_append_of_pos (p:=fun c:UInt8=>c != 0) (l₁:=s) (l₂:=[]) (by simpa using h);simpa[fldB] using this
def trmB(s:List UInt8):List UInt8:=if s.getLast? =some 47 then s.dropLast else s
theorem qpq{x:Ent}:qii x=true↔x.kind≠1∧x.kind≠5:=by simp[qii]
theorem qv3{x c:Ent}(h:q41 x c=true):qal (qaa x.path) (qaa c.path)<0∨(qaa x.path=qaa c.path∧x.kind=1):=by
 unfold q41 at h;rcases Int.lt_or_le (qal (qaa x.path) (qaa c.path)) 0 with h1|h1
 ·exact .inl h1
 ·rw[decide_eq_true h1] at h
  simp only[Bool.true_and,Bool.not_not,Bool.and_eq_true,decide_eq_true_eq] at h;exact .inr ⟨qlf h.1.1,h.1.2⟩
theorem q0u{l:List Ent}{j:Nat}{x y:Ent}(hn:∀(m:Nat) (a b:Ent),m<k→l[m]? =some a→l[m+1]? =some b→q41 a b=true)(hij:i<j)(hj:j≤k)(hx:l[i]? =some x)(hy:l[j]? =some y)(h1:x.kind≠1):qal (qaa x.path) (qaa y.path)<0:=by
 induction j generalizing y with
 |zero=>omega
 |succ j ih=>
  have hjl:=(List.getElem?_eq_some_iff.1 hy).1;obtain⟨z,hz⟩:∃z,l[j]? =some z:=⟨l[j]'(by omega),List.getElem?_eq_getElem _⟩;have hzn:=qv3 (hn j z y (by omega) hz hy);rcases Nat.lt_or_ge i j with h|h
  ·have:=ih h (by omega) hz
   rcases hzn with h2|⟨h2,_⟩
   ·exact qhf this h2
   ·rw[←h2];exact this
  ·obtain rfl:i=j:=by omega
   rw[hx] at hz;cases hz
   rcases hzn with h2|⟨_,h2⟩
   ·exact h2
   ·exact absurd h2 h1
end Go.Proofs.YtikdblkfjchjbaaGreatDoor
