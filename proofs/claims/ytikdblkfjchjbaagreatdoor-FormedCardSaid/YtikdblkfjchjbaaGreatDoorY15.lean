import Derived.Deep.RegionLaw
import Derived.Deep.AppendLies
import Derived.Test.YtikdblkfjchjbaaGreatDoorY14
set_option linter.unusedVariables false
set_option linter.unusedSimpArgs false
set_option maxHeartbeats 16000000
set_option maxRecDepth 100000
namespace Go.Proofs.YtikdblkfjchjbaaGreatDoor
open Go.RowKit
variable{w w' w0:World}{g i n k m B gn g' o f p j:Nat}{s op x r:List UInt8}{b b0:List Bool}{a c d:Value}{ws:List WordG}{st' st2:List StageG}{e t:TypeId}{α:Type}{l:List Atm}{xs:List Value}{y:StepG}{row:Option Nat}
theorem qtt{base:Nat}{size:Nat}{v:Value}(h:w.ownsRow base e size v n xs):∀k,v.ownBlock=some k→k<w.heap.size:=by
 rcases h.2 with⟨rfl,_⟩|⟨g',cap,cur,rfl,hb,hh,_⟩
 ·simp[Value.ownBlock]
 ·intro k hk;simp only[Value.ownBlock,Option.some.injEq] at hk;subst hk;exact(q6s hh).1
theorem BlkT.alloc(h:BlkT w g t)(o:Obj):BlkT (w.alloc o) g t:=h.after ((Below.refl _ _).alloc (Nat.le_refl _) o)
theorem BlkT.far(h:BlkT w g t)(u:Value)(hne:g≠g'):BlkT (w.setCell ⟨g',o,none⟩ u) g t:=by
 obtain⟨cs,h⟩:=h;exact⟨cs,by rw[heap_setCell_other w _ g u hne];exact h⟩
theorem KeepT.setT{T:TypeId}(hb:BlkT w g e)(hne:e≠T)(o:Nat)(u:Value):KeepT T w (w.setCell ⟨g,o,none⟩ u):=by
 obtain⟨cs,h⟩:=hb;exact KeepT.setCell h hne o u
theorem BlkT.drew(h:BlkT w g t):BlkT w.drew g t:=h
def Blk4(w:World)(g:Nat)(a b c d:Value):Prop:=∃t,w.heap[g]? =some (Obj.cells #[a,b,c,d] t (0,0))
theorem Blk4.new(w:World)(a b c d:Value)(t:TypeId):Blk4 (w.alloc (.cells #[a,b,c,d] t)) w.heap.size a b c d:=⟨t,heap_alloc_new w _⟩
theorem Blk4.lt{b:Value}(h:Blk4 w g a b c d):g<w.heap.size:=by
 obtain⟨t,h⟩:=h;exact(q6s h).1
theorem Blk4.drew{b:Value}(h:Blk4 w g a b c d):Blk4 w.drew g a b c d:=h
theorem Blk4.after{b:Value}(h:Blk4 w g a b c d)(hb:Below w.heap.size w w'):Blk4 w' g a b c d:=by
 have hl:=h.lt;obtain⟨t,h⟩:=h;exact⟨t,(hb.block g hl).trans h⟩
theorem Blk4.grown{b:Value}(h:Blk4 w g a b c d)(hg:w.grownBy w' row)(hne:some g≠row):Blk4 w' g a b c d:=by
 have hl:=h.lt;obtain⟨t,h⟩:=h;exact⟨t,(hg.block g hl hne).trans h⟩
theorem Blk4.facts{b:Value}(h:Blk4 w g a b c d):w.cell? ⟨g,0,none⟩=some a∧w.cell? ⟨g,1,none⟩=some b∧w.cell? ⟨g,2,none⟩=some c∧w.cell? ⟨g,3,none⟩=some d∧w.frozen? ⟨g,0,none⟩=false∧w.frozen? ⟨g,1,none⟩=false∧w.frozen? ⟨g,2,none⟩=false∧w.frozen? ⟨g,3,none⟩=false:=by
 obtain⟨t,h⟩:=h;refine⟨?_,?_,?_,?_,frozen_of_row w g 0 _ t h,frozen_of_row w g 1 _ t h,frozen_of_row w g 2 _ t h,frozen_of_row w g 3 _ t h⟩
 ·rw[cell_of_row w g 0 _ t (0,0) h];rfl
 ·rw[cell_of_row w g 1 _ t (0,0) h];rfl
 ·rw[cell_of_row w g 2 _ t (0,0) h];rfl
 ·rw[cell_of_row w g 3 _ t (0,0) h];rfl
theorem Blk4.set3{b:Value}(h:Blk4 w g a b c d)(u:Value):Blk4 (w.setCell ⟨g,3,none⟩ u) g a b c u:=by
 obtain⟨t,h⟩:=h;exact⟨t,by rw[heap_setCell_same w g _ _ t u h];rfl⟩
theorem Blk4.set2{b:Value}(h:Blk4 w g a b c d)(u:Value):Blk4 (w.setCell ⟨g,2,none⟩ u) g a b u d:=by
 obtain⟨t,h⟩:=h;exact⟨t,by rw[heap_setCell_same w g _ _ t u h];rfl⟩
theorem Blk4.set1{b:Value}(h:Blk4 w g a b c d)(u:Value):Blk4 (w.setCell ⟨g,1,none⟩ u) g a u c d:=by
 obtain⟨t,h⟩:=h;exact⟨t,by rw[heap_setCell_same w g _ _ t u h];rfl⟩
theorem Blk4.far{b:Value}(h:Blk4 w g a b c d)(u:Value)(hne:g≠g'):Blk4 (w.setCell ⟨g',o,none⟩ u) g a b c d:=by
 obtain⟨t,h⟩:=h;exact⟨t,by rw[heap_setCell_other w _ g u hne];exact h⟩
theorem qdn(w:World)(a b c d:Value)(t:TypeId)(B:Nat)(hB:w.heap.size=B):∀j u,[a,b,c,d][j]? =some u→(w.alloc (.cells #[a,b,c,d] t)).cell? ((⟨B,0,none⟩:Addr).add j)=some u:=by
 subst hB;intro j u h;match j,h with
 |0,h=>simp at h;subst h;simp[Addr.add]
 |1,h=>simp at h;subst h;simp[Addr.add]
 |2,h=>simp at h;subst h;simp[Addr.add]
 |3,h=>simp at h;subst h;simp[Addr.add]
theorem qe0(st:List StageG)(x:List UInt8):qan st x= -1∨∃k:Nat,k<st.length∧qan st x=k:=by
 unfold qan;cases h:st.findIdx? (fun y=>y.name==x) with
 |none=>exact .inl rfl
 |some k=>
  obtain⟨hk,_⟩:=List.findIdx?_eq_some_iff_getElem.1 h;exact .inr ⟨k,hk,rfl⟩
theorem qkw{st:List StageG}(h:k<st.length):qfw st (k:Int)=st[k].vars:=by simp[qfw,h]
theorem qjp{st:List StageG}{k:Int}(h:k<0):qfw st k=[]:=by unfold qfw;rw[if_neg (by omega)]
theorem qec{base:Nat}{size c:Nat}(h:w.ownsRow base e size (.slice (some ⟨g,0,none⟩) n c) n xs)(j:Nat)(u:Value)(hj:j<n*size):
 (w.setCell ⟨g,j,none⟩ u).ownsRow base e size (.slice (some ⟨g,0,none⟩) n c) n (xs.set j u):=by
 obtain⟨h1,h2⟩:=h;refine⟨by simpa using h1,?_⟩;rcases h2 with⟨e1,_⟩|⟨g',cap,cur,e1,hg,hh,hn,hm,r1,r2⟩
 ·simp at e1
 ·simp only[Value.slice.injEq,Option.some.injEq,Addr.mk.injEq] at e1
  obtain⟨⟨rfl,-,-⟩,-,rfl⟩:=e1;refine .inr ⟨g,c,cur.setIfInBounds j u,rfl,hg,heap_setCell_same w g j cur e u hh,hn,hm,by simpa using r1,?_⟩;rw[←r2];apply List.ext_getElem?;intro k;simp only[Array.toList_setIfInBounds,List.getElem?_take,List.getElem?_set];by_cases hk:k<n*size
  ·simp only[hk,if_true]
   by_cases hjk:j=k
   ·subst hjk
    have hle:n*size≤cur.size:=by rw[r1];exact Nat.mul_le_mul_right _ hn
    simp[hk,show j<cur.size by omega]
    omega
   ·simp[hjk]
  ·simp only[hk,if_false]
   by_cases hjk:j=k
   ·omega
   ·simp[hjk]
theorem q1v(cs0:List Value)(a b sv vv u:Value)(m:Nat)(h:cs0.length=m*4):(cs0++[a,b,sv,vv]).set (m*4+3) u=cs0++[a,b,sv,u]:=by
 rw[List.set_append_right _ _ (by omega),h];simp
theorem q1w(cs0:List Value)(a b sv vv u:Value)(m:Nat)(h:cs0.length=m*4):(cs0++[a,b,sv,vv]).set (m*4+2) u=cs0++[a,b,u,vv]:=by
 rw[List.set_append_right _ _ (by omega),h];simp
theorem qeb(init:List StageG)(y:StageG)(vs:List (List UInt8))(x:StepG):qoc (init++[y]) vs x=init++[⟨y.name,y.base,y.steps++[x],y.vars++vs⟩]:=by
 simp[qoc]
theorem qey(init:List StageG)(y:StageG):qez (init++[y])=y.vars:=by simp[qez]
def StB(n:Nat)(st:List StageG):Prop:=∀x∈st,x.vars.length≤n∧x.steps.length≤n
theorem StB.mono{st:List StageG}(h:StB n st)(hm:n≤m):StB m st:=fun x hx=>⟨Nat.le_trans (h x hx).1 hm,Nat.le_trans (h x hx).2 hm⟩
theorem qxf{a b:Nat}(h:qbc op=some (a,b)):1≤a∧b≤3∧(op=qfv→a=2):=by
 unfold qbc at h;split at h
 ·rename_i e;simp at h;obtain⟨rfl,rfl⟩:=h;exact⟨by omega,by omega,fun e2=>by rw[e] at e2;cases e2⟩
 ·split at h
  ·simp at h;obtain⟨rfl,rfl⟩:=h;exact⟨by omega,by omega,fun _=>rfl⟩
  ·rename_i hne
   split at h
   ·simp at h;obtain⟨rfl,rfl⟩:=h;exact⟨by omega,by omega,fun e=>absurd e hne⟩
   ·split at h
    ·simp at h;obtain⟨rfl,rfl⟩:=h;exact⟨by omega,by omega,fun e=>absurd e hne⟩
    ·split at h
     ·simp at h;obtain⟨rfl,rfl⟩:=h;exact⟨by omega,by omega,fun e=>absurd e hne⟩
     ·split at h
      ·simp at h;obtain⟨rfl,rfl⟩:=h;exact⟨by omega,by omega,fun e=>absurd e hne⟩
      ·split at h
       ·simp at h;obtain⟨rfl,rfl⟩:=h;exact⟨by omega,by omega,fun e=>absurd e hne⟩
       ·split at h
        ·simp at h;obtain⟨rfl,rfl⟩:=h;exact⟨by omega,by omega,fun e=>absurd e hne⟩
        ·cases h
theorem q29{st:List StageG}(h:qg2 st ws= .ok st')(hb:StB n st)(h5:st.length≤5):StB n st'∧st'≠[]∧st'.length≤5:=by
 unfold qg2 at h;split at h
 ·cases h
 ·split at h
  ·cases h
  ·split at h
   ·cases h
   ·split at h
    ·cases h
    ·split at h
     ·cases h
     ·rename_i hne5
      cases h;refine⟨?_,by simp,by simp;omega⟩;intro x hx;rcases List.mem_append.1 hx with hx|hx
      ·exact hb x hx
      ·simp only[List.mem_singleton] at hx
       subst hx;refine⟨?_,by simp⟩;rcases qe0 st (nth ws 1).text with hk|⟨k,hkl,hk⟩
       ·simp only[hk];rw[qjp (by omega)];simp
       ·simp only[hk];rw[qkw hkl];exact(hb _ (List.getElem_mem hkl)).1
theorem q1t{st:List StageG}(h:qfy st op ws= .ok st')(hb:StB n st)(h5:st.length≤5)(hne:st≠[]):StB (n+1) st'∧st'≠[]∧st'.length≤5:=by
 unfold qfy at h;split at h
 ·cases h
 ·split at h
  ·cases h
  ·cases h
   obtain⟨init,y,rfl⟩:∃init y,st=init++[y]:=⟨st.dropLast,st.getLast hne,(List.dropLast_concat_getLast hne).symm⟩;rw[qeb];refine⟨?_,by simp,by simpa using h5⟩;intro x hx;rcases List.mem_append.1 hx with hx|hx
   ·have:=hb x (List.mem_append.2 (.inl hx));omega
   ·simp only[List.mem_singleton] at hx
    subst hx;have:=hb y (by simp);refine⟨?_,by simp;omega⟩;split <;> simp <;> omega
theorem q0v(c:UInt8):qd4 c=true↔(c.toNat:Int)=10∨(32≤(c.toNat:Int)∧(c.toNat:Int)≤126):=by
 simp only[qd4,Bool.or_eq_true,Bool.and_eq_true,decide_eq_true_eq,beq_iff_eq,UInt8.le_iff_toNat_le,←UInt8.toNat_inj];simp;omega
theorem qzs{f:Flt}(h:qh5 ws= .error f):f.1=5:=by
 unfold qh5 at h;split at h
 ·split at h
  ·cases h;rfl
  ·split at h
   ·cases h;rfl
   ·split at h
    ·cases h;rfl
    ·cases h
 ·cases h
theorem q0a{st:List StageG}(h:qg2 st ws= .error (f,p)):f=5∨f=6∨f=10:=by
 unfold qg2 at h;split at h
 ·rename_i f' hf
  cases h;exact .inl (qzs hf)
 ·split at h
  ·cases h;exact .inl rfl
  ·split at h
   ·cases h;exact .inr (.inl rfl)
   ·split at h
    ·cases h;exact .inr (.inl rfl)
    ·split at h
     ·cases h;exact .inr (.inr rfl)
     ·cases h
theorem qyj{st:List StageG}(h:qfy st op ws= .error (f,p)):f=5∨f=6∨f=7:=by
 unfold qfy at h;split at h
 ·rename_i f' he
  cases h;unfold qci at he;split at he
  ·unfold qgy at he
   repeat' split at he
   all_goals first
    |(cases he;exact .inl rfl)
    |(cases he;exact .inr (.inl rfl))
    |(cases he;done)
  ·split at he
   ·split at he <;> cases he;exact .inl rfl
   ·split at he
    ·split at he <;> cases he;exact .inl rfl
    ·cases he
 ·split at h
  ·cases h;exact .inr (.inr rfl)
  ·cases h
theorem qvx(h:s.length≤1500)(hk:s.findIdx? (fun c=>!qd4 c)=some k):qa8 s= .error (5,k):=by unfold qa8;rw[if_neg (by omega),hk]
theorem qsh(h:s.length≤1500)(hk:s.findIdx? (fun c=>!qd4 c)=none):qa8 s=qdh s 0 [] 0:=by unfold qa8;rw[if_neg (by omega),hk]
def qdj(x:StageG)(k:Int):Bool:=x.steps.any (fun y=>y.stage==k) ||x.base==k
inductive Reach(st:List StageG):Nat→Prop
 |last:st≠[]→Reach st (st.length - 1)
 |step {i k:Nat} (hi:i<st.length):Reach st i→k<i→qdj st[i] k=true→Reach st k
theorem Reach.lt{st:List StageG}(h:Reach st i):i<st.length:=by
 induction h with
 |last hne=>cases st with
  |nil=>exact absurd rfl hne
  |cons x r=>simp
 |step hi _ hk _ _=>omega
open Classical in
noncomputable def qc1(st:List StageG):List Nat:=(List.range st.length).filter (fun i=>decide (Reach st i))
structure Marks(st:List StageG)(b:List Bool):Prop where
 len:b.length=st.length
 last:b[st.length - 1]? =some true
 sound:∀i:Nat,b[i]? =some true→Reach st i
theorem Marks.set{st:List StageG}(h:Marks st b)(hi:i<st.length)(hb:b[i]? =some true)(hk:k<i)(hw:qdj st[i] k=true):Marks st (b.set k true):=by
 refine⟨by simpa using h.len,?_,?_⟩
 ·rw[List.getElem?_set]
  have:=h.last;have hl:=h.len;split
  ·rename_i e;subst e
   simp;omega
  ·exact this
 ·intro j hj
  rw[List.getElem?_set] at hj;split at hj
  ·rename_i e;subst e
   exact .step hi (h.sound i hb) hk hw
  ·exact h.sound j hj
def qtg(st:List StageG)(b:List Bool):Prop:=∀(i k:Nat) (hi:i<st.length),k<i→b[i]? =some true→qdj st[i] k=true→b[k]? =some true
theorem Marks.all{st:List StageG}(h:Marks st b)(hc:qtg st b)(i:Nat):b[i]? =some true↔Reach st i:=by
 refine⟨h.sound i,fun hr=>?_⟩;induction hr with
 |last hne=>exact h.last
 |step hi _ hk hw ih=>exact hc _ _ hi hk ih hw
def upto(b:List Bool)(k:Nat):List Nat:=(List.range k).filter (fun i=>b[i]? ==some true)
theorem q1e{st:List StageG}(h:Marks st b)(hc:qtg st b):upto b st.length=qc1 st:=by
 unfold upto qc1;apply List.filter_congr;intro i _;rw[Bool.eq_iff_iff];simpa using h.all hc i
def WfS(st:List StageG):Prop:=∀(i:Nat) (h:i<st.length),st[i].base<(i:Int)∧∀x∈st[i].steps,x.stage<(i:Int)
structure FileOk(st:List StageG):Prop where
 wf:WfS st
 ne:st≠[]
 h5:st.length≤5
 bd:StB 24 st
def ClosedFrom(st:List StageG)(b:List Bool)(k:Nat):Prop:=∀(i k':Nat) (hi:i<st.length),k≤i→k'<i→b[i]? =some true→qdj st[i] k'=true→b[k']? =some true
theorem ClosedFrom.all{st:List StageG}(h:ClosedFrom st b 0):qtg st b:=fun i k hi hk hb hw=>h i k hi (Nat.zero_le _) hk hb hw
def qc8(b:List Bool)(n k:Nat):List Nat:=((List.range n).filter (fun i=>b[i]? ==some true&&decide (k≤i))).reverse
theorem qqy(b:List Bool)(n:Nat):qc8 b n n=[]:=by
 unfold qc8;rw[List.reverse_eq_nil_iff,List.filter_eq_nil_iff];intro i hi;have:=List.mem_range.1 hi;simp;omega
theorem qw4(b:List Bool)(n:Nat):qc8 b n 0=(upto b n).reverse:=by
 unfold qc8 upto;congr 1
 apply List.filter_congr;intro i _;simp
theorem qqw(p:Nat→Bool)(n k:Nat)(h:k<n):(List.range n).filter (fun i=>p i&&decide (k≤i))=(if p k=true then [k] else [])++(List.range n).filter (fun i=>p i&&decide (k+1≤i)):=by
 induction n with
 |zero=>omega
 |succ n ih=>
  rw[List.range_succ,List.filter_append,List.filter_append];rcases Nat.lt_or_ge k n with hk|hk
  ·rw[ih hk,List.append_assoc]
   congr 2
   simp[List.filter_cons,show k≤n by omega,show k+1≤n by omega]
  ·obtain rfl:k=n:=by omega
   have e1:(List.range k).filter (fun i=>p i&&decide (k≤i))=[]:=by
    rw[List.filter_eq_nil_iff];intro i hi;have:=List.mem_range.1 hi;simp;omega
   have e2:(List.range k).filter (fun i=>p i&&decide (k+1≤i))=[]:=by
    rw[List.filter_eq_nil_iff];intro i hi;have:=List.mem_range.1 hi;simp;omega
   rw[e1,e2];simp[List.filter_cons]
theorem qnl(b:List Bool)(n k:Nat)(h:k<n):qc8 b n k=if b[k]? =some true then qc8 b n (k+1)++[k] else qc8 b n (k+1):=by
 unfold qc8;rw[qqw (fun i=>b[i]? ==some true) n k h];by_cases hb:b[k]? =some true <;> simp[hb]
theorem qqz(b:List Bool)(n k:Nat):(qc8 b n k).length≤n:=by
 unfold qc8;rw[List.length_reverse];have:=List.length_filter_le (fun i=>b[i]? ==some true&&decide (k≤i)) (List.range n);simpa using this
theorem qw5{b':List Bool}(h:∀i,k≤i→b'[i]? =b[i]?):qc8 b' n k=qc8 b n k:=by
 unfold qc8;congr 1
 apply List.filter_congr;intro i _;by_cases hi:k≤i
 ·rw[h i hi]
 ·simp[hi]
structure Mid(st:List StageG)(b0 b:List Bool)(i j:Nat)(hi:i<st.length):Prop where
 above:∀k,i≤k→b[k]? =b0[k]?
 more:∀k:Nat,b0[k]? =some true→b[k]? =some true
 base:∀k:Nat,st[i].base=k→b[k]? =some true
 steps:∀(q k:Nat) (hq:q<st[i].steps.length),q<j→st[i].steps[q].stage=k→b[k]? =some true
theorem Mid.set{st:List StageG}{hi:i<st.length}(h:Mid st b0 b i j hi)(k:Nat)(hk:k<i)(hl:b.length=st.length)(hj:∀(hq:j<st[i].steps.length),st[i].steps[j].stage=(k:Int)):Mid st b0 (b.set k true) i (j+1) hi:=by
 have on:∀m:Nat,b[m]? =some true→(b.set k true)[m]? =some true:=fun m e=>by
  rw[List.getElem?_set];split
  ·simp;omega
  ·exact e
 refine⟨fun m hm=>?_,fun m e=>on m (h.more m e),fun m e=>on m (h.base m e),fun q m hq hlt e=>?_⟩
 ·rw[List.getElem?_set_ne (by omega)];exact h.above m hm
 ·rcases Nat.lt_or_ge q j with h'|h'
  ·exact on m (h.steps q m hq h' e)
  ·obtain rfl:q=j:=by omega
   have:=hj hq;have e2:k=m:=by omega
   subst e2;exact List.getElem?_set_self (by omega)
theorem Mid.skip{st:List StageG}{hi:i<st.length}(h:Mid st b0 b i j hi)(hj:∀(hq:j<st[i].steps.length),st[i].steps[j].stage<0):Mid st b0 b i (j+1) hi:=by
 refine⟨h.above,h.more,h.base,fun q m hq hlt e=>?_⟩;rcases Nat.lt_or_ge q j with h'|h'
 ·exact h.steps q m hq h' e
 ·obtain rfl:q=j:=by omega
  have:=hj hq;omega
theorem Mid.start{st:List StageG}(hi:i<st.length)(hb:st[i].base<0):Mid st b0 b0 i 0 hi:=
 ⟨fun _ _=>rfl,fun _ e=>e,fun k e=>by omega,fun q k _ h=>by omega⟩
theorem Mid.start1{st:List StageG}(hi:i<st.length)(k:Nat)(hk:k<i)(hl:b0.length=st.length)(hb:st[i].base=(k:Int)):Mid st b0 (b0.set k true) i 0 hi:=by
 refine⟨fun m hm=>List.getElem?_set_ne (by omega),fun m e=>?_,fun m e=>?_,fun q k _ h=>by omega⟩
 ·rw[List.getElem?_set];split
  ·simp;omega
  ·exact e
 ·have e2:k=m:=by omega
  subst e2;exact List.getElem?_set_self (by omega)
theorem Mid.closed{st:List StageG}{hi:i<st.length}(h:Mid st b0 b i st[i].steps.length hi)(hc:ClosedFrom st b0 (i+1)):ClosedFrom st b i:=by
 intro i' k' hi' hle hlt hb hw;rcases Nat.lt_or_ge i i' with h'|h'
 ·rw[h.above i' (by omega)] at hb
  exact h.more k' (hc i' k' hi' h' hlt hb hw)
 ·obtain rfl:i'=i:=by omega
  unfold qdj at hw;rw[Bool.or_eq_true,List.any_eq_true] at hw;rcases hw with⟨y,hy,e⟩|e
  ·obtain⟨q,hq,rfl⟩:=List.getElem_of_mem hy
   exact h.steps q k' hq hq (by simpa using e)
  ·exact h.base k' (by simpa using e)
theorem ClosedFrom.pass{st:List StageG}(h:ClosedFrom st b (i+1))(hb:b[i]?≠some true):ClosedFrom st b i:=by
 intro i' k' hi' hle hlt hb' hw;rcases Nat.lt_or_ge i i' with h'|h'
 ·exact h i' k' hi' h' hlt hb' hw
 ·obtain rfl:i'=i:=by omega
  exact absurd hb' hb
theorem ClosedFrom.top(st:List StageG)(b:List Bool):ClosedFrom st b st.length:=fun i _ hi hle=>by omega
theorem q0j{st:List StageG}(h:Marks st b)(hc:ClosedFrom st b 0):(qc8 b st.length 0).reverse=qc1 st:=by
 rw[qw4,List.reverse_reverse,q1e h hc.all]
def quk(y:StepG):Prop:=y.words.length≤3∧GoodW y.words∧qbc y.op≠none
def qme(x:StageG):Prop:=x.name.length≤10∧∀y∈x.steps,quk y
def FileT(st:List StageG):Prop:=∀x∈st,qme x
def qd5(c:UInt8):Bool:=qi1 c ||qhk c ||qnn c ||c==46 ||c==47 ||c==95 ||c==61 ||c==58 ||c==45
theorem qm2(c:UInt8):qd5 c=true↔(97≤(c.toNat:Int)∧(c.toNat:Int)≤122)∨(65≤(c.toNat:Int)∧(c.toNat:Int)≤90)∨(48≤(c.toNat:Int)∧(c.toNat:Int)≤57)∨(c.toNat:Int)=46∨(c.toNat:Int)=47∨(c.toNat:Int)=95∨(c.toNat:Int)=61∨(c.toNat:Int)=58∨(c.toNat:Int)=45:=by
 simp only[qd5,Bool.or_eq_true,qjt,qll,qnm,beq_iff_eq,←UInt8.toNat_inj];simp
 omega
def qcc(c:UInt8):List UInt8:=if qd5 c then [c] else [92,c]
theorem qf0(c:UInt8):0<(qcc c).length∧(qcc c).length≤2:=by unfold qcc;split <;> simp
def qb9(s:List UInt8):List UInt8:=s.flatMap qcc
def qc9:Atm→List UInt8
 |.ch c=>qcc c
 |.var x _=>[36,123]++x++[125]
def qbs(l:List Atm):List UInt8:=l.flatMap qc9
def qdw(s:List UInt8):List UInt8:=if s=[] then [34,34] else s
def qd2(w:WordG):List UInt8:=qdw (qbs w.l)
def qb1(st:List StageG)(k:Int):List UInt8:=if k<0 then qcb else (match st[k.toNat]? with|some x=>x.name|none=>[])
def qbt(ws:List WordG):List UInt8:=ws.flatMap (fun w=>32::qd2 w)
def qpb:List UInt8:=[32,45,45,102,114,111,109,61]
def qiy:List UInt8:=[70,82,79,77,32]
def wSAS:List UInt8:=[32,65,83,32]
def qbp(st:List StageG)(x:StepG):List UInt8:=x.op++(if 0≤x.stage then qpb++qb1 st x.stage else [])
def qej(st:List StageG)(x:StepG):List UInt8:=qbp st x++qbt x.words++[10]
def qbd(st:List StageG)(x:StageG):List UInt8:=qiy++qb1 st x.base++(if x.name=[] then [] else wSAS++x.name)++[10]
def qcy(st:List StageG)(x:StageG):List UInt8:=qbd st x++x.steps.flatMap (qej st)
def qb4(st:List StageG):List UInt8:=st.flatMap (qcy st)
theorem qiq(f:α→List UInt8)(l:List α)(n:Nat)(h:∀x∈l,(f x).length≤n):(l.flatMap f).length≤l.length*n:=by
 induction l with
 |nil=>simp
 |cons x r ih=>
  have h1:=h x List.mem_cons_self;have h2:=ih (fun y hy=>h y (List.mem_cons_of_mem _ hy));simp only[List.flatMap_cons,List.length_append,List.length_cons,Nat.succ_mul];omega
theorem qel(f:α→List UInt8)(l:List α)(k:Nat)(h:k<l.length):(l.take (k+1)).flatMap f=(l.take k).flatMap f++f l[k]:=by
 rw[List.take_succ_eq_append_getElem h,List.flatMap_append];simp
theorem qdc(f:α→List UInt8)(l:List α)(k n:Nat)(h:∀x∈l,(f x).length≤n):((l.take k).flatMap f).length≤l.length*n:=by
 have:=qiq f (l.take k) n (fun x hx=>h x (List.mem_of_mem_take hx));have h2:(l.take k).length*n≤l.length*n:=Nat.mul_le_mul_right _ (by rw[List.length_take];omega);omega
theorem qrc(h:GoodA l):∀x∈l,(qc9 x).length≤13:=by
 intro x hx;cases x with
 |ch c=>have:=qf0 c;simp only[qc9];omega
 |var n p=>have:=(h n p hx).2;simp[qc9];omega
theorem qmz(s:List UInt8):(qdw s).length≤s.length+2:=by unfold qdw;split <;> simp
theorem qqv(h:GoodW ws):∀w∈ws,(qbs w.l).length≤26000∧(qd2 w).length≤26002:=by
 intro w hw;obtain⟨h1,h2⟩:=h w hw;have h3:(qbs w.l).length≤w.l.length*13:=qiq qc9 w.l 13 (qrc h1);have:=qmz (qbs w.l);unfold qd2;omega
theorem qht{st:List StageG}(h:FileT st)(k:Int):(qb1 st k).length≤10:=by
 unfold qb1;split
 ·decide
 ·split
  ·rename_i x hx
   exact(h x (List.mem_of_getElem? hx)).1
  ·simp
theorem qmc(h:qbc op≠none):op.length≤7:=by
 unfold qbc at h;repeat' split at h
 all_goals first
  |(rename_i e;rw[e];decide)
  |exact absurd rfl h
theorem qmr(h:quk y):∀k,(qbt (y.words.take k)).length≤80000:=by
 intro k;have:=qdc (fun w:WordG=>32::qd2 w) y.words k 26003 (fun w hw=>by have:=(qqv h.2.1 w hw).2;simp;omega);have h1:=h.1;have h2:y.words.length*26003≤3*26003:=Nat.mul_le_mul_right _ h1;unfold qbt;omega
theorem qi0{st:List StageG}(h:quk y)(ht:FileT st):(qbp st y).length≤30:=by
 have h1:=qmc h.2.2;have h2:=qht ht y.stage;unfold qbp;split
 ·simp only[List.length_append,qpb,List.length_cons,List.length_nil];omega
 ·simp only[List.length_append,List.length_nil];omega
theorem qyi{st:List StageG}(h:quk y)(ht:FileT st):(qej st y).length≤80031:=by
 have h1:=qi0 h ht;have h2:=qmr h y.words.length;rw[List.take_length] at h2;unfold qej;simp only[List.length_append,List.length_cons,List.length_nil];omega
theorem qib{st:List StageG}{x:StageG}(h:qme x)(ht:FileT st):(qbd st x).length≤30:=by
 have h1:=h.1;have h2:=qht ht x.base;unfold qbd;split
 ·simp only[List.length_append,qiy,List.length_cons,List.length_nil];omega
 ·simp only[List.length_append,qiy,wSAS,List.length_cons,List.length_nil];omega
theorem qmt{st:List StageG}{x:StageG}(h:qme x)(ht:FileT st)(h24:x.steps.length≤24)(k:Nat):((x.steps.take k).flatMap (qej st)).length≤1920744:=by
 have:=qdc (qej st) x.steps k 80031 (fun y hy=>qyi (h.2 y hy) ht);have h2:x.steps.length*80031≤24*80031:=Nat.mul_le_mul_right _ h24;omega
theorem qu7{st:List StageG}{x:StageG}(h:qme x)(ht:FileT st)(h24:x.steps.length≤24):(qcy st x).length≤1920774:=by
 have h1:=qib h ht;have h2:=qmt h ht h24 x.steps.length;rw[List.take_length] at h2;unfold qcy;simp only[List.length_append];omega
theorem qx5{st:List StageG}(ht:FileT st)(hb:StB 24 st)(h5:st.length≤5)(k:Nat):((st.take k).flatMap (qcy st)).length≤9603870:=by
 have:=qdc (qcy st) st k 1920774 (fun x hx=>qu7 (ht x hx) ht (hb x hx).2);have h2:st.length*1920774≤5*1920774:=Nat.mul_le_mul_right _ h5;omega
theorem GoodW.drop(h:GoodW ws)(k:Nat):GoodW (ws.drop k):=fun x hx=>h x (List.mem_of_mem_drop hx)
def EqN(a b:Nat):Prop:=a=b
theorem EqN.out{a b:Nat}(h:EqN a b):a=b:=h
theorem qbm{c:UInt8}(h:s.drop i=c::r):∃hi:i<s.length,s[i]=c∧s.drop (i+1)=r∧s[i]? =some c:=by
 have hi:i<s.length:=by
  apply Classical.byContradiction;intro hn;rw[List.drop_of_length_le (by omega)] at h;cases h
 have h2:s[i]? =some c:=by
  have:=congrArg (·[0]?) h;simpa using this
 refine⟨hi,(List.getElem?_eq_some_iff.1 h2).2,?_,h2⟩;rw[←List.drop_drop,h];rfl
theorem qje{l:List UInt8}(h:s.drop i=l++r):s.drop (i+l.length)=r:=by
 rw[←List.drop_drop,h,List.drop_left]
def eraA:Atm→Atm
 |.ch c=> .ch c
 |.var x _=> .var x 0
def eraW(w:WordG):WordG:=⟨w.l.map eraA,0⟩
def qgx:Atm→Prop
 |.ch c=>c≠10∧qd4 c=true
 |.var x _=>x≠[]∧x.length≤10∧qbr x=x.length
theorem q4q:qie 125=false:=by decide
theorem qmf{p:UInt8→Bool}(x r:List UInt8)(c:UInt8)(h:(x.takeWhile p).length=x.length)(hc:p c=false):(x++c::r).takeWhile p=x:=by
 induction x with
 |nil=>simp[hc]
 |cons a x ih=>
  rw[List.takeWhile_cons] at h;split at h
  ·next ha=>
   simp only[List.length_cons,Nat.add_right_cancel_iff] at h;rw[List.cons_append,List.takeWhile_cons,if_pos ha,ih h]
  ·simp at h
theorem qwp(h0:x≠[])(h:qbr x=x.length):qbr (x++125::r)=x.length:=by
 cases x with
 |nil=>exact absurd rfl h0
 |cons a x=>
  rw[qbr] at h;split at h
  ·next ha=>
   simp only[List.length_cons,Nat.add_right_cancel_iff] at h;rw[List.cons_append,qbr,if_pos ha,qmf x r 125 h q4q];rfl
  ·simp at h
theorem qf7{c:UInt8}(h:s[i]? =some c)(hc:c≠92):qb0 s i=false:=by
 unfold qb0;rw[h];have:(some c==some (92:UInt8))=false:=by simpa using hc
 rw[this];rfl
theorem qnf{c:UInt8}(h:s[i+1]? =some c)(hc:c≠10):qb0 s i=false:=by
 unfold qb0;rw[h];have:(some c==some (10:UInt8))=false:=by simpa using hc
 rw[this,Bool.and_false]
theorem qtr{c:UInt8}(h:qd5 c=true):c≠10∧c≠32∧c≠34∧c≠36∧c≠92∧c≠35:=by
 refine⟨?_,?_,?_,?_,?_,?_⟩ <;> (rintro rfl;revert h;decide)
def EndW(r:List UInt8):Prop:=∃c r',r=c::r'∧(c=32∨c=10)
theorem qxn(l:List Atm)(hl:∀a∈l,qgx a)(s r:List UInt8)(hr:EndW r):∀(i:Nat) (acc:List Atm),s.drop i=qbs l++r→∃l',qbf s i acc= .ok (acc++l',i+(qbs l).length)∧l'.map eraA=l.map eraA:=by
 induction l with
 |nil=>
  intro i acc h;obtain⟨c,r',rfl,hc⟩:=hr;obtain⟨hi,h1,_,_⟩:=qbm (show s.drop i=c::r' from h);refine⟨[],?_,rfl⟩;rw[qft hi (by rw[h1];rcases hc with rfl|rfl;exact .inr (.inr rfl);exact .inl rfl)];simp[qbs]
 |cons a l ih=>
  intro i acc h;have ih:=ih fun x hx=>hl x (List.mem_cons_of_mem _ hx)
  have ha:=hl a List.mem_cons_self;have hf:qbs (a::l)=qc9 a++qbs l:=rfl;rw[hf,List.append_assoc] at h;have hd:=qje h;cases a with
  |ch c=>
   by_cases hp:qd5 c=true
   ·have hs:qc9 (.ch c)=[c]:=by show qcc c=[c];unfold qcc;rw[if_pos hp]
    rw[hs] at h hd hf;obtain⟨hi,h1,_,h2⟩:=qbm (show s.drop i=c::(qbs l++r) from h);obtain⟨n1,n2,n3,n4,n5,_⟩:=qtr hp;obtain⟨l',e1,e2⟩:=ih (i+1) (acc++[.ch c]) hd;refine⟨.ch c::l',?_,by rw[List.map_cons,List.map_cons,e2]⟩;rw[qti hi (by rw[h1];exact n1) (by rw[h1];exact n2) (qf7 h2 n5) (by rw[h1];exact n3) (by rw[h1];exact n4) (by rw[h1];exact n5),h1,e1,hf];simp;omega
   ·have hs:qc9 (.ch c)=[92,c]:=by show qcc c=[92,c];unfold qcc;rw[if_neg hp]
    rw[hs] at h hd hf;obtain⟨hi,h1,h3,h2⟩:=qbm (show s.drop i=92::(c::(qbs l++r)) from h);obtain⟨hi',h1',_,h2'⟩:=qbm h3;obtain⟨l',e1,e2⟩:=ih (i+2) (acc++[.ch c]) hd;refine⟨.ch c::l',?_,by rw[List.map_cons,List.map_cons,e2]⟩;rw[qpa hi' h1 (qnf h2' ha.1),h1',e1,hf];simp;omega
  |var x p=>
   obtain⟨x0,x1,x2⟩:=ha;have hs:qc9 (.var x p)=36::123::(x++[125]):=by simp[qc9]
   rw[hs] at h hd hf;obtain⟨hi,h1,h3,h2⟩:=qbm (show s.drop i=36::(123::(x++[125]++(qbs l++r))) from by simpa using h);obtain⟨hi',h1',h3',h2'⟩:=qbm h3;have hx:s.drop (i+2)=x++125::(qbs l++r):=by simpa using h3'
   have hg:qbr (s.drop (i+2))=x.length:=by rw[hx];exact qwp x0 x2
   have hd':=qje hx;obtain⟨_,_,_,h5⟩:=qbm hd';have hxl:0<x.length:=List.length_pos_iff.2 x0;have hv:varB s i=some (x,x.length+3):=by
    unfold varB;rw[if_pos h2'];dsimp only;rw[hg,if_neg (by rw[h5];simp only[ne_eq,not_true_eq_false,or_false];omega),hx,List.take_left]
   obtain⟨l',e1,e2⟩:=ih (i+(x.length+3)) (acc++[.var x i]) (by simpa using hd);refine⟨.var x i::l',?_,by rw[List.map_cons,List.map_cons,e2];rfl⟩;rw[qo9 hi h1 (qf7 h2 (by decide)) hv,e1,hf];simp;omega
theorem q0f(h:qbs l=[]):l=[]:=by
 cases l with
 |nil=>rfl
 |cons a l=>
  have h1:qc9 a++qbs l=[]:=h;have h2:=(List.append_eq_nil_iff.1 h1).1;cases a with
  |ch c=>have:=(qf0 c).1;rw[show qcc c=[] from h2] at this;simp at this
  |var x p=>simp[qc9] at h2
theorem qwy(h:l≠[])(hl:∀a∈l,qgx a):∃c r,qbs l=c::r∧c≠10∧c≠32∧c≠35∧c≠34∧(c=92→∃d r',r=d::r'∧d≠10):=by
 cases l with
 |nil=>exact absurd rfl h
 |cons a l=>
  have ha:=hl a List.mem_cons_self;cases a with
  |ch c=>
   by_cases hp:qd5 c=true
   ·obtain⟨n1,n2,n3,n4,n5,n6⟩:=qtr hp
    refine⟨c,qbs l,?_,n1,n2,n6,n3,fun e=>absurd e n5⟩;show qcc c++qbs l=_
    unfold qcc;rw[if_pos hp];rfl
   ·refine⟨92,c::qbs l,?_,by decide,by decide,by decide,by decide,fun _=>⟨c,_,rfl,ha.1⟩⟩
    show qcc c++qbs l=_
    unfold qcc;rw[if_neg hp];rfl
  |var x p=>exact⟨36,123::(x++[125])++qbs l,by simp[qbs,qc9],by decide,by decide,by decide,by decide,fun e=>absurd e (by decide)⟩
theorem qjs{c:UInt8}(h:s[i]? =some c)(hc:c≠10):qa2 s i=false:=by
 unfold qa2;rw[h];simpa using hc
theorem qm6(l:List Atm)(hl:∀a∈l,qgx a)(h0:l≠[])(s r:List UInt8)(hr:EndW r)(i:Nat)(acc:List WordG)(h:s.drop i=qbs l++r):∃w',eraW w'=eraW ⟨l,0⟩∧qbq s i acc=qbq s (i+(qbs l).length) (acc++[w']):=by
 obtain⟨l',e1,e2⟩:=qxn l hl s r hr i [] h;obtain⟨c,q,hq,n1,n2,n3,_,n4⟩:=qwy h0 hl;rw[hq] at h;obtain⟨hi,h1,h3,h2⟩:=qbm (show s.drop i=c::(q++r) from h);have hg:qb0 s i=false:=by
  by_cases hc:c=92
  ·obtain⟨d,q',rfl,hd⟩:=n4 hc
   obtain⟨_,_,_,h5⟩:=qbm (show s.drop (i+1)=d::(q'++r) from h3);exact qnf h5 hd
  ·exact qf7 h2 hc
 refine⟨⟨l',i⟩,by unfold eraW;rw[e2],?_⟩;rw[qed (qjs h2 n1) hg (by rw[h2];simpa using n2) (by rw[h2];rintro⟨e,_⟩;exact n3 (Option.some.inj e)) e1];simp
theorem q4w(q:Nat)(h:s.drop i=34::r):qat s q i []= .ok ([],i+1):=by
 obtain⟨hi,h1,_,_⟩:=qbm h;rw[qat,dif_pos hi,if_neg (by rw[h1];decide),if_pos h1]
theorem qwq(w:WordG)(hl:∀a∈w.l,qgx a)(s r:List UInt8)(hr:EndW r)(i:Nat)(acc:List WordG)(h:s.drop i=qd2 w++r):∃w',eraW w'=eraW w∧qbq s i acc=qbq s (i+(qd2 w).length) (acc++[w']):=by
 unfold qd2 qdw at h ⊢;split at h
 ·next h0=>
  rw[if_pos h0];have hw:=q0f h0;obtain⟨hi,h1,h3,h2⟩:=qbm (show s.drop i=34::(34::r) from h);obtain⟨hi',h1',h3',h2'⟩:=qbm h3;obtain⟨c,r',rfl,hc⟩:=hr;obtain⟨hi2,h12,_,_⟩:=qbm h3';have hv:qbf s i []= .ok ([],i+2):=by
   rw[qxo hi h1 (qf7 h2 (by decide)) (q4w i h3),qft hi2 (by rw[h12];rcases hc with rfl|rfl;exact .inr (.inr rfl);exact .inl rfl)];rfl
  refine⟨⟨[],i⟩,by unfold eraW;rw[hw],?_⟩;rw[qed (qjs h2 (by decide)) (qf7 h2 (by decide)) (by rw[h2];decide) (by rw[h2];rintro⟨e,_⟩;revert e;decide) hv];rfl
 ·next h0=>
  rw[if_neg h0];exact qm6 w.l hl (fun e=>h0 (by rw[e];rfl)) s r hr i acc h
theorem qmq:∀(ws:List WordG) (_:∀w∈ws,∀a∈w.l,qgx a) (s r:List UInt8) (i:Nat) (acc:List WordG),s.drop i=qbt ws++10::r→∃ws',ws'.map eraW=ws.map eraW∧qbq s i acc= .ok (acc++ws',i+(qbt ws).length+1)
 |[],_,s,r,i,acc,h=>by
  obtain⟨hi,h1,_,h2⟩:=qbm (show s.drop i=10::r from h);refine⟨[],rfl,?_⟩;rw[qf6 (by unfold qa2;rw[h2];rfl)];simp[qbt]
 |w::ws,hw,s,r,i,acc,h=>by
  have hf:qbt (w::ws)=32::(qd2 w++qbt ws):=by simp[qbt]
  rw[hf] at h ⊢;obtain⟨hi,h1,h3,h2⟩:=qbm (show s.drop i=32::(qd2 w++(qbt ws++10::r)) from by simpa using h);have hend:EndW (qbt ws++10::r):=by
   cases ws with
   |nil=>exact⟨10,r,rfl,.inr rfl⟩
   |cons v vs=>exact⟨32,_,by simp[qbt];rfl,.inl rfl⟩
  obtain⟨w',e1,e2⟩:=qwq w (hw w List.mem_cons_self) s _ hend (i+1) acc h3;obtain⟨ws',e3,e4⟩:=qmq ws (fun x hx=>hw x (List.mem_cons_of_mem _ hx)) s r (i+1+(qd2 w).length) (acc++[w']) (qje h3);refine⟨w'::ws',by rw[List.map_cons,List.map_cons,e1,e3],?_⟩;rw[qfb (qjs h2 (by decide)) (qf7 h2 (by decide)) h2,e2,e4];simp;omega
def qin(ws:List WordG):List UInt8:=match ws with
 |[]=>[]
 |w::r=>qbs w.l++qbt r++[10]
theorem qz2(w:WordG)(ws:List WordG)(hw:∀x∈w::ws,∀a∈x.l,qgx a)(h0:w.l≠[])(s r:List UInt8)(i:Nat)(h:s.drop i=qin (w::ws)++r):∃ws',ws'.map eraW=(w::ws).map eraW∧qbq s i []= .ok (ws',i+(qin (w::ws)).length):=by
 have h':s.drop i=qbs w.l++(qbt ws++10::r):=by simpa[qin] using h
 have hend:EndW (qbt ws++10::r):=by
  cases ws with
  |nil=>exact⟨10,r,rfl,.inr rfl⟩
  |cons v vs=>exact⟨32,_,by simp[qbt];rfl,.inl rfl⟩
 obtain⟨w',e1,e2⟩:=qm6 w.l (hw w List.mem_cons_self) h0 s _ hend i [] h';obtain⟨ws',e3,e4⟩:=qmq ws (fun x hx=>hw x (List.mem_cons_of_mem _ hx)) s r (i+(qbs w.l).length) ([]++[w']) (qje h');refine⟨w'::ws',by rw[List.map_cons,List.map_cons,e1,e3];rfl,?_⟩;rw[e2,e4];simp[qin];omega
theorem qwo(s:List UInt8):qbr (s.take (qbr s))=qbr s:=by
 cases s with
 |nil=>rfl
 |cons c r=>
  rw[qbr];split
  ·next hc=>
   rw[List.take_succ_cons,qbr,if_pos hc];congr 1
   have:∀r:List UInt8,((r.take (r.takeWhile qie).length).takeWhile qie).length=(r.takeWhile qie).length:=by
    intro r;induction r with
    |nil=>rfl
    |cons a r ih=>
     rw[List.takeWhile_cons];split
     ·next ha=>rw[List.length_cons,List.take_succ_cons,List.takeWhile_cons,if_pos ha,List.length_cons,ih]
     ·rfl
   exact this r
  ·rfl
theorem qxu(h:varB s i=some (x,n)):qbr x=x.length:=by
 have key:∀j,(s.drop j).length≥qbr (s.drop j)→qbr ((s.drop j).take (qbr (s.drop j)))=((s.drop j).take (qbr (s.drop j))).length:=fun j hj=>by
  rw[qwo,List.length_take];omega
 unfold varB at h;split at h
 ·dsimp only at h
  split at h
  ·cases h
  ·simp only[Option.some.injEq,Prod.mk.injEq] at h
   rw[←h.1];exact key _ (qfe _)
 ·dsimp only at h
  split at h
  ·cases h
  ·simp only[Option.some.injEq,Prod.mk.injEq] at h
   rw[←h.1];exact key _ (qfe _)
theorem qox(hb:∀c∈s,qd4 c=true)(h:i<s.length):qd4 s[i]=true:=hb _ (List.getElem_mem h)
theorem qhx{acc:List Atm}{a:Atm}(h:∀x∈acc,qgx x)(k:qgx a):∀x∈acc++[a],qgx x:=fun x hx=>by
 rcases List.mem_append.1 hx with hx|hx
 ·exact h x hx
 ·rw[List.mem_singleton.1 hx];exact k
theorem qvi(hb:∀c∈s,qd4 c=true)(q k:Nat)(acc l:List Atm)(n:Nat)(h:qat s q k acc= .ok (l,n))(ha:∀x∈acc,qgx x):∀x∈l,qgx x:=by
 induction hm:s.length - k using Nat.strongRecOn generalizing k acc with
 |ind m ih=>
  rw[qat] at h;split at h
  ·next hk=>
   split at h
   ·cases h
   ·next n10=>
    split at h
    ·cases h;exact ha
    ·split at h
     ·split at h
      ·cases h
      ·next x n' hv=>
       obtain⟨v1,v2,v3,v4⟩:=qds hv;exact ih (s.length - (k+n')) (by omega) _ _ h (qhx ha ⟨v3,v4,qxu hv⟩) rfl
     ·split at h
      ·split at h
       ·next h1=>
        split at h
        ·next hc=>
         refine ih (s.length - (k+2)) (by omega) _ _ h (qhx ha ⟨?_,qox hb h1⟩) rfl;rcases hc with e|e|e <;> (rw[e];decide)
        ·cases h
       ·cases h
      ·exact ih (s.length - (k+1)) (by omega) _ _ h (qhx ha ⟨n10,qox hb hk⟩) rfl
  ·cases h
theorem q1a(hb:∀c∈s,qd4 c=true)(i:Nat)(acc l:List Atm)(n:Nat)(h:qbf s i acc= .ok (l,n))(ha:∀x∈acc,qgx x):∀x∈l,qgx x:=by
 induction hm:s.length - i using Nat.strongRecOn generalizing i acc with
 |ind m ih=>
  rw[qbf] at h;split at h
  ·next hk=>
   split at h
   ·cases h;exact ha
   ·next hno=>
    split at h
    ·split at h
     ·cases h
     ·next l' n' hq=>
      have:=qd9 _ _ _ _ _ _ hq;refine ih (s.length - n') (by omega) _ _ h (fun x hx=>?_) rfl;rcases List.mem_append.1 hx with hx|hx
      ·exact ha x hx
      ·exact qvi hb _ _ _ _ _ hq (fun _ h=>by cases h) x hx
    ·split at h
     ·split at h
      ·cases h
      ·next x n' hv=>
       obtain⟨v1,v2,v3,v4⟩:=qds hv;exact ih (s.length - (i+n')) (by omega) _ _ h (qhx ha ⟨v3,v4,qxu hv⟩) rfl
     ·split at h
      ·next h92=>
       split at h
       ·next h1=>
        refine ih (s.length - (i+2)) (by omega) _ _ h (qhx ha ⟨fun e=>hno (.inr (.inl ?_)),qox hb h1⟩) rfl;unfold qb0;rw[List.getElem?_eq_getElem hk,List.getElem?_eq_getElem h1,h92,e];rfl
       ·cases h
      ·exact ih (s.length - (i+1)) (by omega) _ _ h (qhx ha ⟨fun e=>hno (.inl e),qox hb hk⟩) rfl
  ·cases h;exact ha
theorem q2u(hb:∀c∈s,qd4 c=true)(i:Nat)(acc l:List WordG)(n:Nat)(h:qbq s i acc= .ok (l,n))(ha:∀w∈acc,∀x∈w.l,qgx x):∀w∈l,∀x∈w.l,qgx x:=by
 induction hm:s.length - i using Nat.strongRecOn generalizing i acc with
 |ind m ih=>
  cases hs:qa2 s i with
  |true=>rw[qf6 hs] at h;cases h;exact ha
  |false=>
   obtain⟨hi,n10⟩:=qbo hs;cases hg:qb0 s i with
   |true=>
    obtain⟨hg1,_⟩:=qgo hg;rw[qhz hs hg] at h;exact ih (s.length - (i+2)) (by omega) _ _ h ha rfl
   |false=>
    by_cases c:s[i]? =some 32
    ·rw[qfb hs hg c] at h
     exact ih (s.length - (i+1)) (by omega) _ _ h ha rfl
    ·by_cases d:s[i]? =some 35∧acc=[]
     ·obtain⟨d1,rfl⟩:=d
      rw[qex hs hg d1] at h;cases h;exact ha
     ·cases hw:qbf s i [] with
      |error p=>rw[qfa hs hg c d hw] at h;cases h
      |ok ln=>
       obtain⟨l',n'⟩:=ln;have h2:=qd6 s i [] l' n' hw hi n10 (by intro e;apply c;rw[List.getElem?_eq_getElem hi,e]) hg;rw[qed hs hg c d hw] at h;refine ih (s.length - n') (by omega) _ _ h (fun w hw'=>?_) rfl;rcases List.mem_append.1 hw' with hx|hx
       ·exact ha w hx
       ·rw[List.mem_singleton.1 hx];exact q1a hb _ _ _ _ hw (fun _ h=>by cases h)
def eraP(x:StepG):StepG:=⟨x.op,x.words.map eraW,x.stage,0⟩
def eraG(x:StageG):StageG:=⟨x.name,x.base,x.steps.map eraP,x.vars⟩
def eraF(st:List StageG):List StageG:=st.map eraG
theorem qm3(l:List Atm):∀acc,qbe (l.map eraA) acc=qbe l acc:=by
 induction l with
 |nil=>intro acc;rfl
 |cons a l ih=>
  intro acc;cases a with
  |ch c=>exact ih _
  |var x p=>rfl
theorem qgh(w:WordG):(eraW w).text=w.text:=congrArg Prod.fst (qm3 w.l [])
theorem qt8(w:WordG):(eraW w).flat=w.flat:=congrArg Prod.snd (qm3 w.l [])
theorem qjx(w:List WordG)(k:Nat):nth (w.map eraW) k=eraW (nth w k):=by
 unfold nth;rw[List.getD_eq_getElem?_getD,List.getD_eq_getElem?_getD,List.getElem?_map];cases w[k]? <;> rfl
theorem q3f(w:WordG):qlv (eraW w)=qlv w:=by unfold qlv;rw[qgh,qt8]
theorem qnq(st:List StageG)(x:List UInt8):qan (eraF st) x=qan st x:=by
 unfold qan eraF;rw[List.findIdx?_map];rfl
theorem q1d(st:List StageG)(k:Int):qfw (eraF st) k=qfw st k:=by
 unfold qfw eraF;rw[List.getElem?_map];cases st[k.toNat]? <;> rfl
theorem q2z(st:List StageG):qez (eraF st)=qez st:=by
 unfold qez eraF;rw[List.getLast?_map];cases st.getLast? <;> rfl
theorem quw(vs:List (List UInt8))(l:List Atm):(qb8 vs (l.map eraA)=none)↔qb8 vs l=none:=by
 induction l with
 |nil=>exact Iff.rfl
 |cons a l ih=>
  cases a with
  |ch c=>exact ih
  |var x p=>
   show(if x∈vs then qb8 vs (l.map eraA) else some 0)=none↔(if x∈vs then qb8 vs l else some p)=none
   split
   ·exact ih
   ·simp
theorem quv(vs:List (List UInt8))(l:List WordG):(qbn vs (l.map eraW)=none)↔qbn vs l=none:=by
 induction l with
 |nil=>exact Iff.rfl
 |cons w l ih=>
  rw[List.map_cons,qbn,qbn];have h:=quw vs w.l;cases h1:qb8 vs w.l with
  |none=>
   rw[show qb8 vs (eraW w).l=none from h.2 h1];exact ih
  |some p=>
   cases h2:qb8 vs (eraW w).l with
   |none=>rw[h.1 h2] at h1;cases h1
   |some q=>simp
theorem q2c(st:List StageG)(vs:List (List UInt8))(x:StepG):qoc (eraF st) vs (eraP x)=eraF (qoc st vs x):=by
 unfold qoc eraF;rw[List.getLast?_map];cases st.getLast? with
 |none=>rfl
 |some y=>simp[List.map_dropLast,eraG]
def okE:Except Flt α→Option α
 |.ok a=>some a
 |.error _=>none
theorem q2m(w:List WordG):okE (qh5 (w.map eraW))=okE (qh5 w):=by
 unfold qh5;simp only[List.length_map,qjx,qgh];repeat' split
 all_goals rfl
theorem q27(st:List StageG)(w:List WordG):okE (qg2 (eraF st) (w.map eraW))=(okE (qg2 st w)).map eraF:=by
 have hn:=q2m w;unfold qg2;cases h1:qh5 w with
 |error f=>
  rw[h1] at hn;cases h2:qh5 (w.map eraW) with
  |error g=>rfl
  |ok n=>rw[h2] at hn;cases hn
 |ok n=>
  rw[h1] at hn;cases h2:qh5 (w.map eraW) with
  |error g=>rw[h2] at hn;cases hn
  |ok m=>
   rw[h2] at hn;obtain rfl:m=n:=Option.some.inj hn;simp only[qjx,qgh,qnq,q1d];have hl:(eraF st).length=st.length:=List.length_map ..;rw[hl];repeat' split
   all_goals first|rfl|skip
   simp[okE,eraF,eraG]
theorem qx7(st:List StageG)(w:List WordG):okE (qgy (eraF st) (w.map eraW))=(okE (qgy st w)).map fun p=>(p.1,p.2.map eraW):=by
 unfold qgy;simp only[qjx,qgh,qnq,q3f,List.length_map];have hl:(eraF st).length=st.length:=List.length_map ..;rw[hl];repeat' split
 all_goals first|rfl|simp[okE,List.map_drop]
theorem qzz(st:List StageG)(op:List UInt8)(w:List WordG):okE (qci (eraF st) op (w.map eraW))=(okE (qci st op w)).map fun p=>(p.1,p.2.map eraW):=by
 unfold qci;simp only[qjx,qgh,qt8,List.length_map];split
 ·exact qx7 st w
 ·repeat' split
  all_goals first|rfl|simp[okE,List.map_drop]
theorem q1r(st:List StageG)(op:List UInt8)(w:List WordG):okE (qfy (eraF st) op (w.map eraW))=(okE (qfy st op w)).map eraF:=by
 have hk:=qzz st op w;unfold qfy;cases h1:qci st op w with
 |error f=>
  rw[h1] at hk;cases h2:qci (eraF st) op (w.map eraW) with
  |error g=>rfl
  |ok n=>rw[h2] at hk;cases hk
 |ok p=>
  obtain⟨k,l⟩:=p;rw[h1] at hk;cases h2:qci (eraF st) op (w.map eraW) with
  |error g=>rw[h2] at hk;cases hk
  |ok q=>
   rw[h2] at hk;obtain rfl:q=(k,l.map eraW):=Option.some.inj hk;dsimp only;rw[q2z];have hu:=quv (qez st) l;cases h3:qbn (qez st) l with
   |none=>
    rw[hu.2 h3];simp only[qjx,qgh];show some _=some _
    congr 1
    rw[←q2c];rfl
   |some p=>
    cases h4:qbn (qez st) (l.map eraW) with
    |none=>rw[hu.1 h4] at h3;cases h3
    |some q=>rfl
theorem qqj(st:List StageG)(w:List WordG):okE (qce (eraF st) (w.map eraW))=(okE (qce st w)).map eraF:=by
 unfold qce;simp only[qjx,qgh,List.length_map];cases qbc (nth w 0).text with
 |none=>rfl
 |some p=>
  obtain⟨low,high⟩:=p;dsimp only;have he:(eraF st=[])↔st=[]:=List.map_eq_nil_iff;simp only[he];split
  ·rfl
  ·split
   ·exact q27 st w
   ·exact q1r st _ w
theorem qwh{st:List StageG}{w w':List WordG}{r:List StageG}(hs:eraF st'=eraF st)(hw:w'.map eraW=w.map eraW)(h:qce st w= .ok r):∃r',qce st' w'= .ok r'∧eraF r'=eraF r:=by
 have h1:=qqj st w;have h2:=qqj st' w';rw[hs,hw,h1,h] at h2;cases h3:qce st' w' with
 |error f=>rw[h3] at h2;cases h2
 |ok r'=>rw[h3] at h2;exact⟨r',rfl,(Option.some.inj h2).symm⟩
def qra(b:List Bool):List Value:=b.map .bool
def ints(l:List Nat):List Value:=l.map fun (i:Nat)=> .int .i64 (i:Int)
theorem qq9(b:List Bool)(k:Nat):(qra b).set k (.bool true)=qra (b.set k true):=by simp[qra,List.map_set]
theorem qkj{c:Nat}(h:w.ownsRow B e 1 (.slice (some ⟨g,0,none⟩) n c) n (qra b)){v:Bool}(hk:b[k]? =some v):w.cell? ⟨g,k,none⟩=some (.bool v)∧w.frozen? ⟨g,k,none⟩=false:=by
 have hc:=h.cells (g:=g) rfl k (.bool v) (by simp[qra,hk]);have ha:(⟨g,0,none⟩:Addr).add k=⟨g,k,none⟩:=by unfold Addr.add;split <;> simp_all
 rw[ha] at hc;rcases h.2 with⟨e1,_⟩|⟨g',cap,cur,e1,hg,hh,r⟩
 ·simp at e1
 ·simp only[Value.slice.injEq,Option.some.injEq,Addr.mk.injEq] at e1
  obtain⟨⟨rfl,-,-⟩,-,-⟩:=e1;exact⟨hc,frozen_of_row w g _ _ _ hh⟩
structure NInv(w0:World)(gn m:Nat)(st:List StageG)(w:World)(b:List Bool):Prop where
 own:w.ownsRow w0.heap.size 4 1 (.slice (some ⟨gn,0,none⟩) (m+1) (m+1)) (m+1) (qra b)
 marks:Marks st b
 bel:Below w0.heap.size w0 w
 gge:w0.heap.size≤gn
theorem NInv.after{st:List StageG}(h:NInv w0 gn m st w b)(hb:Below w.heap.size w w'):NInv w0 gn m st w' b:=
 ⟨qac h.own hb,h.marks,h.bel.trans (hb.mono h.bel.size),h.gge⟩
theorem qzb{c size:Nat}(h:w.ownsRow B e size (.slice (some ⟨g,0,none⟩) n c) n xs):g+1≤w.heap.size:=qtt h g rfl
theorem NInv.grown{st:List StageG}(h:NInv w0 gn m st w b)(hg:w.grownBy w' row)(hne:some gn≠row)(hB:B≤w.heap.size)(hr:∀k,row=some k→gn+1≤k):NInv w0 gn m st w' b:=by
 refine⟨?_,h.marks,h.bel.grown hg h.bel.size (fun k hk=>by have:=hr k hk;have:=h.gge;omega),h.gge⟩;obtain⟨h1,h2⟩:=h.own;refine⟨h1,?_⟩;rcases h2 with h2|⟨g,cap,cur,hv,hg2,hh,r⟩
 ·exact .inl h2
 ·refine .inr ⟨g,cap,cur,hv,hg2,(hg.block g (q6s hh).1 ?_).trans hh,r⟩
  simp only[Value.slice.injEq,Option.some.injEq,Addr.mk.injEq] at hv;rw[←hv.1.1];exact hne
theorem NInv.mark{st:List StageG}(h:NInv w0 gn m st w b)(hk:k<m+1)(hm:Marks st (b.set k true)):NInv w0 gn m st (w.setCell ⟨gn,k,none⟩ (.bool true)) (b.set k true):=
 ⟨by rw[←qq9];exact qec h.own k (.bool true) (by omega),hm,Below.setCell h.bel (show w0.heap.size≤gn from h.gge) _,h.gge⟩
theorem qp2(l:List Atm):∀acc,(qbe l acc).2=true→(qbe l acc).1=acc++l.filterMap (fun a=>match a with|.ch c=>some c|.var _ _=>none)∧l=(l.filterMap (fun a=>match a with|.ch c=>some c|.var _ _=>none)).map Atm.ch:=by
 induction l with
 |nil=>intro acc _;simp[qbe]
 |cons a l ih=>
  intro acc h;cases a with
  |ch c=>
   obtain⟨h1,h2⟩:=ih (acc++[c]) h;refine⟨?_,?_⟩
   ·rw[show qbe (.ch c::l) acc=qbe l (acc++[c]) from rfl,h1];simp
   ·simp only[List.filterMap_cons,List.map_cons];rw[←h2]
  |var x p=>cases h
theorem qwz{w:WordG}(h:w.flat=true):w.l=w.text.map Atm.ch:=by
 obtain⟨h1,h2⟩:=qp2 w.l [] h;rw[show w.text=(qbe w.l []).1 from rfl,h1,List.nil_append];exact h2
theorem qsb(l:List Atm):∀acc,(qbe l acc).2=false→(qbe l acc).1=[]:=by
 induction l with
 |nil=>intro acc h;cases h
 |cons a l ih=>
  intro acc h;cases a with
  |ch c=>exact ih _ h
  |var x p=>rfl
theorem qu0{w:WordG}(h:w.text≠[]):w.l=w.text.map Atm.ch:=by
 apply qwz;cases hf:w.flat with
 |true=>rfl
 |false=>exact absurd (qsb w.l [] hf) h
theorem qwu(t:List UInt8)(h:∀c∈t,qd5 c=true):qbs (t.map Atm.ch)=t:=by
 induction t with
 |nil=>rfl
 |cons c t ih=>
  have:qbs ((c::t).map Atm.ch)=qcc c++qbs (t.map Atm.ch):=rfl;rw[this,ih fun d hd=>h d (List.mem_cons_of_mem _ hd)];unfold qcc;rw[if_pos (h c List.mem_cons_self)];rfl
theorem qf9{w:WordG}{t:List UInt8}(h:w.text=t)(h0:t≠[])(hp:∀c∈t,qd5 c=true):qbs w.l=t∧qd2 w=t∧w.l≠[]:=by
 have h1:w.l=t.map Atm.ch:=by rw[←h];exact qu0 (by rw[h];exact h0)
 have h2:qbs w.l=t:=by rw[h1];exact qwu t hp
 refine⟨h2,?_,fun e=>h0 ?_⟩
 ·unfold qd2 qdw;rw[h2,if_neg h0]
 ·rw[h1] at e;exact List.map_eq_nil_iff.1 e
theorem qih(h:qby s=true):s≠[]∧∀c∈s,qd5 c=true:=by
 unfold qby at h;simp only[Bool.and_eq_true,decide_eq_true_eq,List.all_eq_true,List.mem_range,Bool.not_eq_true',List.isEmpty_eq_false_iff] at h;refine⟨h.1.2,fun c hc=>?_⟩;obtain⟨i,hi,rfl⟩:=List.getElem_of_mem hc;have:=h.1.1 i hi;unfold okS at this;rw[List.getElem?_eq_getElem hi] at this;simp only[Bool.or_eq_true,Bool.and_eq_true] at this;unfold qd5;rcases this with e|e
 ·simp[e]
 ·simp[e.1]
theorem q2h(h:qbc op≠none):op≠[]∧∀c∈op,qd5 c=true:=by
 unfold qbc at h;repeat' split at h
 all_goals first
  |exact absurd rfl h
  |(next e=>rw[e];decide)
theorem qma{st:List StageG}(h:qan st x=k):∃y,st[k]? =some y∧y.name=x:=by
 unfold qan at h;split at h
 ·next j hj=>
  obtain rfl:j=k:=by omega
  obtain⟨hl,hp,_⟩:=List.findIdx?_eq_some_iff_getElem.1 hj;exact⟨st[j],List.getElem?_eq_getElem hl,by simpa using hp⟩
 ·omega
theorem qq7{st:List StageG}(x:List UInt8):qan st x<st.length:=by
 by_cases h:0≤qan st x
 ·obtain⟨k,hk⟩:∃k:Nat,qan st x=k:=⟨(qan st x).toNat,by omega⟩
  obtain⟨y,hy,_⟩:=qma hk;have:=(List.getElem?_eq_some_iff.1 hy).1;omega
 ·omega
theorem qcj{f g:α→List UInt8}{l:List α}(h:∀x∈l,f x=g x):l.flatMap f=l.flatMap g:=by
 induction l with
 |nil=>rfl
 |cons a l ih=>rw[List.flatMap_cons,List.flatMap_cons,h a List.mem_cons_self,ih fun x hx=>h x (List.mem_cons_of_mem _ hx)]
theorem qw0:∀c∈qn0,qd5 c=true:=by decide
theorem qkz{st:List StageG}(h:st'.map (·.name)=st.map (·.name))(k:Int):qb1 st' k=qb1 st k:=by
 unfold qb1;split
 ·rfl
 ·have:=congrArg (·[k.toNat]?) h
  simp only[List.getElem?_map] at this;cases h1:st[k.toNat]? <;> cases h2:st'[k.toNat]? <;> rw[h1,h2] at this <;> simp at this ⊢
  exact this
theorem qpe(st m:List StageG)(k:Int)(hk:k<st.length):qb1 (st++m) k=qb1 st k:=by
 unfold qb1;split
 ·rfl
 ·rw[List.getElem?_append_left (by omega)]
theorem qj4{st:List StageG}(h:0≤qan st x∨x=qcb):qb1 st (qan st x)=x:=by
 by_cases h0:0≤qan st x
 ·obtain⟨k,hk⟩:∃k:Nat,qan st x=k:=⟨(qan st x).toNat,by omega⟩
  obtain⟨y,hy,hn⟩:=qma hk;rw[hk];unfold qb1;rw[if_neg (by omega),show((k:Int)).toNat=k from rfl,hy];exact hn
 ·rcases h with h|h
  ·exact absurd h h0
  ·unfold qb1;rw[if_pos (by omega),h]
def Bnd(st:List StageG):Prop:=∀x∈st,x.base<st.length∧∀y∈x.steps,y.stage<st.length
theorem qk2{st:List StageG}(x:StageG)(h:∀k:Int,k<st.length→qb1 st' k=qb1 st k)(hx:x.base<st.length∧∀y∈x.steps,y.stage<st.length):qcy st' x=qcy st x:=by
 unfold qcy qbd;rw[h _ hx.1];congr 1
 apply qcj;intro y hy;unfold qej qbp;split
 ·rw[h _ (hx.2 y hy)]
 ·rfl
theorem qx4{st:List StageG}{y:StageG}(hb:Bnd st):qb4 (st++[y])=qb4 st++qcy (st++[y]) y:=by
 unfold qb4;rw[List.flatMap_append,List.flatMap_singleton];congr 1
 apply qcj;intro x hx;exact qk2 x (fun k hk=>qpe st _ k hk) (hb x hx)
theorem qx3{init:List StageG}{y:StageG}{x:StepG}(vs:List (List UInt8))(hb:Bnd (init++[y])):qb4 (init++[⟨y.name,y.base,y.steps++[x],y.vars++vs⟩])=qb4 (init++[y])++qej (init++[y]) x:=by
 have hn:∀k,qb1 (init++[⟨y.name,y.base,y.steps++[x],y.vars++vs⟩]) k=qb1 (init++[y]) k:=qkz (by simp);unfold qb4;rw[List.flatMap_append,List.flatMap_append,List.flatMap_singleton,List.flatMap_singleton,List.append_assoc];congr 1
 ·apply qcj
  intro z hz;exact qk2 z (fun k _=>hn k) (hb z (List.mem_append_left _ hz))
 ·unfold qcy qbd
  rw[List.flatMap_append,List.flatMap_singleton,hn,List.append_assoc _ (List.flatMap _ _) (qej _ _)];congr 1
  congr 1
  ·apply qcj
   intro z _;unfold qej qbp;rw[hn]
  ·unfold qej qbp;rw[hn]
theorem qh2{w:List WordG}(h:k<w.length):w.drop k=nth w k::w.drop (k+1):=by
 rw[qzf h,List.drop_eq_getElem_cons h]
theorem qqf{w:List WordG}(h:0<w.length):qin w=qbs (nth w 0).l++qbt (w.drop 1)++[10]:=by
 cases w with
 |nil=>simp at h
 |cons a r=>simp[qin,nth]
theorem qgf(w:WordG)(r:List WordG):qbt (w::r)=32::qd2 w++qbt r:=by simp[qbt]
theorem qv5{w:List WordG}{n:List UInt8}(h:qh5 w= .ok n)(h4:w.length≤4)(h2:2≤w.length):(w.length=2∧n=[])∨(w.length=4∧(nth w 2).text=wAS∧n=(nth w 3).text∧qby n=true):=by
 unfold qh5 at h;split at h
 ·split at h
  ·cases h
  ·next hA=>
   split at h
   ·cases h
   ·split at h
    ·cases h
    ·next _ hs=>cases h;exact .inr ⟨by omega,Classical.not_not.1 hA,rfl,by simpa using hs⟩
 ·cases h;exact .inl ⟨by omega,rfl⟩
theorem qz9{st:List StageG}{w:List WordG}(hb:Bnd st)(hw0:(nth w 0).text=qcq)(h2:2≤w.length)(h4:w.length≤4)(h:qg2 st w= .ok st2):qb4 st2=qb4 st++qin w∧(nth w 0).l≠[]∧Bnd st2:=by
 obtain⟨f1,_,f3⟩:=qf9 hw0 (by decide) (by decide);unfold qg2 at h;cases hn:qh5 w with
 |error f=>rw[hn] at h;cases h
 |ok n=>
  rw[hn] at h;dsimp only at h;split at h
  ·cases h
  ·next hs=>
   split at h
   ·cases h
   ·next hc=>
    split at h
    ·cases h
    ·split at h
     ·cases h
     ·cases h
      have hs':qby (nth w 1).text=true:=by simpa using hs
      obtain⟨p0,p1⟩:=qih hs';obtain⟨_,g2,_⟩:=qf9 rfl p0 p1;have ht:qb1 st (qan st (nth w 1).text)=(nth w 1).text:=qj4 (by
       by_cases hx:(nth w 1).text=qcb
       ·exact .inr hx
       ·exact .inl (by
         apply Classical.byContradiction;intro hq;exact hc ⟨by omega,hx⟩))
      have hlt:=qq7 (st:=st) (nth w 1).text;refine⟨?_,f3,?_⟩
      ·rw[qx4 hb]
       congr 1
       unfold qcy qbd;rw[qpe st _ _ hlt,ht,qqf (by omega),f1,qh2 (k:=1) (by omega),qgf,g2];rcases qv5 hn h4 h2 with⟨hl,rfl⟩|⟨hl,hA,rfl,hsn⟩
       ·rw[List.drop_of_length_le (by omega)]
        simp[qbt,qiy,qcq]
       ·obtain⟨q0,q1⟩:=qih hsn
        obtain⟨_,r2,_⟩:=qf9 (w:=nth w 3) rfl q0 q1;obtain⟨_,a2,_⟩:=qf9 hA (by decide) (by decide);rw[qh2 (k:=2) (by omega),qh2 (k:=3) (by omega),qgf,qgf,r2,a2,List.drop_of_length_le (by omega),if_neg q0];simp[qbt,qiy,qcq,wSAS,wAS]
      ·intro x hx
       rw[List.length_append,List.length_singleton];rcases List.mem_append.1 hx with hx|hx
       ·obtain⟨b1,b2⟩:=hb x hx
        exact⟨by omega,fun y hy=>by have:=b2 y hy;omega⟩
       ·rw[List.mem_singleton.1 hx]
        exact⟨by show qan st _<_;omega,fun y hy=>by cases hy⟩
theorem qrm{st:List StageG}{w l:List WordG}{k:Int}(h:qgy st w= .ok (k,l)):(k= -1∧l=w.drop 1)∨(0≤k∧k<st.length∧w.length=4∧l=w.drop 2∧∃n,(nth w 1).text=qn0++n∧(nth w 1).flat=true∧qby n=true∧k=qan st n):=by
 unfold qgy at h;split at h
 ·cases h
 ·next h1=>
  split at h
  ·cases h;exact .inl ⟨rfl,rfl⟩
  ·next h2=>
   split at h
   ·cases h
   ·next h3=>
    split at h
    ·cases h
    ·next h4=>
     cases h;have hf:qlv (nth w 1)=true:=by simpa using h2
     have hlt:=qq7 (st:=st) ((nth w 1).text.drop 7);refine .inr ⟨by omega,by omega,?_,rfl,(nth w 1).text.drop 7,?_,?_,by simpa using h3,rfl⟩
     ·rw[hf] at h1
      have h5:=Classical.not_not.1 h1;exact of_decide_eq_true h5.symm
     ·unfold qlv at hf
      simp only[Bool.and_eq_true] at hf;obtain⟨t,ht⟩:=List.isPrefixOf_iff_prefix.1 hf.1;rw[←ht];rfl
     ·unfold qlv at hf
      simp only[Bool.and_eq_true] at hf;exact hf.2
theorem qsm{st:List StageG}{w l:List WordG}{k:Int}(h:qci st op w= .ok (k,l)):(k= -1∧l=w.drop 1)∨(0≤k∧k<st.length∧w.length=4∧l=w.drop 2∧∃n,(nth w 1).text=qn0++n∧(nth w 1).flat=true∧qby n=true∧k=qan st n):=by
 unfold qci at h;split at h
 ·exact qrm h
 ·split at h
  ·split at h <;> cases h;exact .inl ⟨rfl,rfl⟩
  ·split at h
   ·split at h <;> cases h;exact .inl ⟨rfl,rfl⟩
   ·cases h;exact .inl ⟨rfl,rfl⟩
theorem qyg{st:List StageG}{w:List WordG}(hb:Bnd st)(hne:st≠[])(hop:qbc (nth w 0).text≠none)(hl:1≤w.length)(h:qfy st (nth w 0).text w= .ok st2):qb4 st2=qb4 st++qin w∧(nth w 0).l≠[]∧Bnd st2:=by
 obtain⟨o0,o1⟩:=q2h hop;obtain⟨f1,_,f3⟩:=qf9 (w:=nth w 0) rfl o0 o1;unfold qfy at h;cases hk:qci st (nth w 0).text w with
 |error f=>rw[hk] at h;cases h
 |ok p=>
  obtain⟨k,l⟩:=p;rw[hk] at h;dsimp only at h;split at h
  ·cases h
  ·cases h
   obtain⟨y,hy⟩:∃y,st.getLast? =some y:=by
    cases he:st.getLast? with
    |none=>exact absurd (List.getLast?_eq_none_iff.1 he) hne
    |some y=>exact⟨y,rfl⟩
   obtain⟨init,rfl⟩:=List.getLast?_eq_some_iff.1 hy;have hc:=qsm hk;have hklt:k<(init++[y]).length:=by
    rcases hc with⟨rfl,_⟩|⟨_,h2,_⟩
    ·simp;omega
    ·exact h2
   unfold qoc;rw[hy];dsimp only;rw[List.dropLast_concat];refine⟨?_,f3,?_⟩
   ·rw[qx3 _ hb]
    congr 1
    unfold qej qbp;dsimp only;rw[qqf (by omega),f1];rcases hc with⟨rfl,rfl⟩|⟨h0,h1,h4,rfl,n,hn,hf,hs,rfl⟩
    ·rw[if_neg (by decide),List.append_nil]
    ·obtain⟨q0,q1⟩:=qih hs
     obtain⟨_,g2,_⟩:=qf9 hn (by simp[qn0]) (fun c hc=>by
      rcases List.mem_append.1 hc with hc|hc
      ·exact qw0 c hc
      ·exact q1 c hc)
     rw[if_pos h0,qj4 (.inl h0),qh2 (k:=1) (by omega),qgf,g2];simp[qpb,qn0]
   ·intro x hx
    have hlen:(init++[(⟨y.name,y.base,y.steps++[⟨(nth w 0).text,l,k,(nth w 0).at_⟩],y.vars++(if (nth w 0).text=wENV then [(nth w 1).text] else [])⟩:StageG)]).length=(init++[y]).length:=by simp
    rw[hlen];rcases List.mem_append.1 hx with hx|hx
    ·exact hb x (List.mem_append_left _ hx)
    ·rw[List.mem_singleton.1 hx]
     obtain⟨b1,b2⟩:=hb y (by simp);refine⟨b1,fun z hz=>?_⟩;rcases List.mem_append.1 hz with hz|hz
     ·exact b2 z hz
     ·rw[List.mem_singleton.1 hz];exact hklt
theorem qna{st:List StageG}{w:List WordG}(hb:Bnd st)(hw:w≠[])(h:qce st w= .ok st2):qb4 st2=qb4 st++qin w∧(nth w 0).l≠[]∧Bnd st2:=by
 unfold qce at h;cases hbo:qbc (nth w 0).text with
 |none=>rw[hbo] at h;cases h
 |some p=>
  obtain⟨low,high⟩:=p;rw[hbo] at h;dsimp only at h;split at h
  ·cases h
  ·next hc=>
   have hl:0<w.length:=List.length_pos_iff.2 hw;split at h
   ·next hF=>
    rw[hF] at hbo;have:(low,high)=(1,3):=by revert hbo;simp[qbc];intro a b;exact⟨a.symm,b.symm⟩
    cases this;exact qz9 hb hF (by omega) (by omega) h
   ·next hF=>exact qyg hb (fun e=>hc (.inl ⟨e,hF⟩)) (by rw[hbo];simp) (by omega) h
theorem qsx(h:qbr x=x.length):∀c∈x,qie c=true:=by
 cases x with
 |nil=>intro c hc;cases hc
 |cons a x=>
  rw[qbr] at h;split at h
  ·next ha=>
   simp only[List.length_cons,Nat.add_right_cancel_iff] at h;have hx:∀x:List UInt8,(x.takeWhile qie).length=x.length→∀c∈x,qie c=true:=by
    intro x;induction x with
    |nil=>intro _ c hc;cases hc
    |cons b x ih=>
     intro h c hc;rw[List.takeWhile_cons] at h;split at h
     ·next hb=>
      simp only[List.length_cons,Nat.add_right_cancel_iff] at h;rcases List.mem_cons.1 hc with rfl|hc
      ·exact hb
      ·exact ih h c hc
     ·simp at h
   intro c hc;rcases List.mem_cons.1 hc with rfl|hc
   ·unfold qie;rw[ha];rfl
   ·exact hx x h c hc
  ·simp at h
theorem qx8{c:UInt8}(h:qie c=true):qd4 c=true:=by
 rw[qpk] at h;unfold qd4;simp only[Bool.or_eq_true,Bool.and_eq_true,decide_eq_true_eq,UInt8.le_iff_toNat_le];right;simp
 omega
theorem qxg{a:Atm}(h:qgx a):∀c∈qc9 a,qd4 c=true:=by
 cases a with
 |ch d=>
  intro c hc;have hc:c∈qcc d:=hc;unfold qcc at hc;split at hc
  ·rw[List.mem_singleton.1 hc];exact h.2
  ·rcases List.mem_cons.1 hc with rfl|hc
   ·rfl
   ·rw[List.mem_singleton.1 hc];exact h.2
 |var x p=>
  intro c hc;simp only[qc9,List.mem_append,List.mem_cons,List.not_mem_nil,or_false] at hc;rcases hc with(hc|hc)|hc
  ·rcases hc with rfl|rfl <;> rfl
  ·exact qx8 (qsx h.2.2 c hc)
  ·rw[hc];rfl
theorem qnh(h:∀a∈l,qgx a):∀c∈qbs l,qd4 c=true:=by
 intro c hc;obtain⟨a,ha,hc⟩:=List.mem_flatMap.1 hc;exact qxg (h a ha) c hc
theorem qwe{w:List WordG}(h:∀x∈w,∀a∈x.l,qgx a):∀c∈qin w,qd4 c=true:=by
 cases w with
 |nil=>intro c hc;cases hc
 |cons x r=>
  intro c hc;simp only[qin,List.mem_append,List.mem_singleton] at hc;rcases hc with(hc|hc)|hc
  ·exact qnh (h x List.mem_cons_self) c hc
  ·obtain⟨y,hy,hc⟩:=List.mem_flatMap.1 hc
   rcases List.mem_cons.1 hc with rfl|hc
   ·rfl
   ·unfold qd2 qdw at hc
    split at hc
    ·simp only[List.mem_cons,List.not_mem_nil,or_false] at hc
     rcases hc with rfl|rfl <;> rfl
    ·exact qnh (h y (List.mem_cons_of_mem _ hy)) c hc
  ·rw[hc];rfl
def q37(st:List StageG)(n:Nat):Prop:=∀rest,∃st',eraF st'=eraF st∧qdh (qb4 st++rest) 0 [] 0=qdh (qb4 st++rest) (qb4 st).length st' n
theorem qxj{st:List StageG}{w:List WordG}(hA:q37 st n)(hb:Bnd st)(hw:w≠[])(hok:∀x∈w,∀a∈x.l,qgx a)(hn:¬24<n+1)(h:qce st w= .ok st2):q37 st2 (n+1):=by
 obtain⟨t1,t2,_⟩:=qna hb hw h;intro rest;obtain⟨st',e1,e2⟩:=hA (qin w++rest);rw[t1,List.append_assoc,e2];cases w with
 |nil=>exact absurd rfl hw
 |cons x r=>
  obtain⟨ws',f1,f2⟩:=qz2 x r hok t2 (qb4 st++(qin (x::r)++rest)) rest (qb4 st).length (by rw[List.drop_left]);obtain⟨r',g1,g2⟩:=qwh e1 f1 h;have hlt:(qb4 st).length<(qb4 st++(qin (x::r)++rest)).length:=by
   simp[qin];omega
  have hws:ws'≠[]:=by
   intro e;rw[e] at f1;simp at f1
  refine⟨r',g2,?_⟩;rw[qgp hlt f2 hws g1 hn,List.length_append]
theorem q0y(s:List UInt8)(hs:∀c∈s,qd4 c=true)(i:Nat)(st stF:List StageG)(n:Nat)(h:qdh s i st n= .ok stF)(hb:Bnd st)(hA:q37 st n)(hB:∀c∈qb4 st,qd4 c=true):(∃m,q37 stF m)∧(∀c∈qb4 stF,qd4 c=true)∧stF≠[]:=by
 induction hm:s.length - i using Nat.strongRecOn generalizing i st n with
 |ind m ih=>
  by_cases hi:i<s.length
  ·cases hl:qbq s i [] with
   |error p=>rw[qef hi hl] at h;cases h
   |ok q=>
    obtain⟨w,k⟩:=q;have hk:=(qeh _ _ _ _ _ hl).1;by_cases hw:w=[]
    ·subst hw
     rw[qga hi hl] at h;exact ih (s.length - k) (by omega) k st n h hb hA hB rfl
    ·have hok:=q2u hs i [] w k hl (fun _ h=>by cases h)
     cases hins:qce st w with
     |error f=>rw[qhm hi hl hw hins] at h;cases h
     |ok st2=>
      by_cases hn:24<n+1
      ·rw[qir hi hl hw hins hn] at h;cases h
      ·rw[qgp hi hl hw hins hn] at h
       obtain⟨t1,_,t3⟩:=qna hb hw hins;refine ih (s.length - k) (by omega) k st2 (n+1) h t3 (qxj hA hb hw hok hn hins) (fun c hc=>?_) rfl;rw[t1] at hc;rcases List.mem_append.1 hc with hc|hc
       ·exact hB c hc
       ·exact qwe hok c hc
  ·rw[qem (by omega)] at h
   split at h
   ·cases h
   ·next hne=>cases h;exact⟨⟨n,hA⟩,hB,hne⟩
theorem qsf{st:List StageG}(h:qa8 s= .ok st)(hl:(qb4 st).length≤1500):∃st',qa8 (qb4 st)= .ok st'∧eraF st'=eraF st:=by
 unfold qa8 at h;split at h
 ·cases h
 ·split at h
  ·cases h
  ·next hf=>
   have hs:∀c∈s,qd4 c=true:=fun c hc=>by
    have:=List.findIdx?_eq_none_iff.1 hf c hc;simpa using this
   obtain⟨⟨m,hA⟩,hB,hne⟩:=q0y s hs 0 [] st 0 h (fun x hx=>by cases hx) (fun rest=>⟨[],rfl,rfl⟩) (fun c hc=>by cases hc);obtain⟨st',e1,e2⟩:=hA [];rw[List.append_nil] at e2;have hne':st'≠[]:=fun e=>by rw[e] at e1;exact hne (List.map_eq_nil_iff.1 e1.symm)
   refine⟨st',?_,e1⟩;unfold qa8;rw[if_neg (by omega),List.findIdx?_eq_none_iff.2 (fun c hc=>by rw[hB c hc];rfl)];dsimp only;rw[e2,qem (Nat.le_refl _),if_neg hne']
theorem q0w(a:Atm):qc9 (eraA a)=qc9 a:=by cases a <;> rfl
theorem q0e(w:WordG):qd2 (eraW w)=qd2 w:=by
 unfold qd2;congr 1
 show(w.l.map eraA).flatMap qc9=w.l.flatMap qc9
 rw[List.flatMap_map];exact qcj fun a _=>q0w a
theorem qpg(st:List StageG):qb4 (eraF st)=qb4 st:=by
 have hn:∀k,qb1 (eraF st) k=qb1 st k:=qkz (by unfold eraF;rw[List.map_map];rfl);have hw:∀ws:List WordG,qbt (ws.map eraW)=qbt ws:=fun ws=>by
  unfold qbt;rw[List.flatMap_map];exact qcj fun w _=>by rw[q0e]
 have hst:∀x:StepG,qej (eraF st) (eraP x)=qej st x:=fun x=>by
  unfold qej qbp;rw[hn,show(eraP x).words=x.words.map eraW from rfl,hw];rfl
 show(st.map eraG).flatMap (qcy (eraF st))=st.flatMap (qcy st)
 rw[List.flatMap_map];refine qcj fun x _=>?_
 unfold qcy qbd;rw[hn,show(eraG x).steps=x.steps.map eraP from rfl,List.flatMap_map];congr 1
 exact qcj fun y _=>hst y
theorem qu1{st:List StageG}(h:eraF st'=eraF st):qb4 st'=qb4 st:=by rw[←qpg st',h,qpg]
end Go.Proofs.YtikdblkfjchjbaaGreatDoor
