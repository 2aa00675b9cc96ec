import Derived.Test.YtikdblkfjchjbaaGreatDoorProg
import Derived.WalkSpells
import Derived.WalkLawsBesides
import Derived.Lib.Hide
import Derived.Lib.Strings
set_option linter.unusedVariables false
set_option linter.unusedSimpArgs false
set_option maxHeartbeats 16000000
set_option maxRecDepth 100000
namespace Go.Proofs.YtikdblkfjchjbaaGreatDoor
open Go.RowKit
variable{w w':World}{n b i g m:Nat}{v:Value}{e T:TypeId}{xs cs:List Value}{f:List UInt8→Option Nat}{α:Type}{a:Bool}{k:IntKind}{A:Option Addr}{o row:Option Nat}{ps:List MemPlace}{y:DataW Unit×List MemPlace}{s:List UInt8}
theorem q6q{p:Prop}(h:p):Hid p:=Lib.hid h
theorem q6r(w:World)(a:Addr)(h:w.cell? a=some v):a.block<w.heap.size:=World.block_lt_of_cell? w a h
theorem q6s{xs:Array α}{b:α}(h:xs[i]? =some b):∃h:i<xs.size,xs[i]=b:=Array.getElem?_eq_some_iff.1 h
def S(l:List UInt8):ByteArray:=⟨l.toArray⟩
theorem qc0(l:List UInt8):(S l).size=l.length:=by simp[S,ByteArray.size]
theorem qkt(l:List UInt8):(S l).toList=l:=by rw[Lib.toList_data];simp[S]
theorem qc7(l:List UInt8):(S l).data.toList=l:=by simp[S]
theorem S_of(s:ByteArray):S s.data.toList=s:=by apply ByteArray.ext;simp[S]
theorem S_mk(l:List UInt8):(⟨l.toArray⟩:ByteArray)=S l:=rfl
theorem q6f(l:List UInt8)(k:Nat)(h:k<(S l).size):(S l)[k]=l[k]'(by simpa[qc0] using h):=by simp[S,ByteArray.getElem_eq_getElem_data]
theorem qo1{l m:List UInt8}(h:S l=S m):l=m:=by rw[←qkt l,h,qkt]
theorem qum(l m:List UInt8):S l++S m=S (l++m):=by
 apply ByteArray.ext;simp[S,ByteArray.data_append]
theorem qrd(l:List UInt8)(a b:Nat):(S l).extract a b=S ((l.drop a).take (b - a)):=by
 apply ByteArray.ext;simp[S,ByteArray.data_extract,List.extract_toArray]
theorem qph(l:List UInt8)(a:Nat):List.take (l.length - a) (List.drop a l)=List.drop a l:=List.take_of_length_le (by simp)
attribute [go_sem] qph
attribute [simp] qph
attribute [go_sem] S_mk qc0 qkt q6f qum qrd
attribute [simp] S_mk qc0 qkt q6f qum qrd
theorem qax{b:Bool}(h:a=b):Ending.returned (.bool a)= .returned (.bool b):=by rw[h]
theorem qdu{a b:List UInt8}(h:a=b):Ending.returned (.string (S a))= .returned (.string (S b)):=by rw[h]
theorem qdv{a b:Int}(h:a=b):Ending.returned (.int k a)= .returned (.int k b):=by rw[h]
theorem qms{a b:List UInt8}(h:a=b):Value.string (S a)= .string (S b):=by rw[h]
theorem q4e{a b:Int}(h:a=b):Value.int k a= .int k b:=by rw[h]
theorem qhp{b:Bool}(h:a=b):Value.bool a= .bool b:=by rw[h]
def Rd(w:World)(A:Option Addr)(cs:List Value):Prop:=
 cs=[]∨∃b o,A=some ⟨b,o,none⟩∧∀(i:Nat) (u:Value),cs[i]? =some u→w.cell? ⟨b,o+i,none⟩=some u
theorem Rd.at(h:Rd w A cs)(i:Nat)(hi:i<cs.length):
 ∃b o,A=some ⟨b,o,none⟩∧b<w.heap.size∧∀(j:Nat) (u:Value),cs[j]? =some u→w.cell? ⟨b,o+j,none⟩=some u:=by
 rcases h with rfl|⟨b,o,rfl,hc⟩
 ·simp at hi
 ·exact⟨b,o,rfl,q6r w _ (hc i _ (List.getElem?_eq_getElem hi)),hc⟩
theorem Rd.below(h:Rd w A cs)(hb:Below w.heap.size w w'):Rd w' A cs:=by
 rcases h with rfl|⟨b,o,rfl,hc⟩
 ·exact .inl rfl
 ·refine .inr ⟨b,o,rfl,fun i u hu=>?_⟩
  rw[hb.cell (q6r w _ (hc i u hu))];exact hc i u hu
theorem Rd.of_own{base:Nat}{size:Nat}(h:w.ownsRow base e size v n xs):
 ∃A cap,v= .slice A n cap∧n≤cap∧cap≤maxLen∧Rd w A xs:=by
 have h0:=h;obtain⟨h1,h2⟩:=h;rcases h2 with⟨rfl,rfl⟩|⟨g,cap,cur,rfl,hg,hh,hn,hm,r1,r2⟩
 ·refine⟨none,0,rfl,Nat.le_refl _,Nat.zero_le _,.inl ?_⟩
  simpa using h1
 ·refine⟨_,_,rfl,hn,hm,.inr ⟨g,0,rfl,fun i u hu=>?_⟩⟩
  have:=h0.cellAt i (by rw[←h1];exact(List.getElem?_eq_some_iff.1 hu).1);simpa[this] using hu
def strs(l:List (List UInt8)):List Value:=l.map fun x=> .string (S x)
theorem qcx(l:List (List UInt8)):(strs l).length=l.length:=by simp[strs]
theorem qc5{l:List (List UInt8)}(h:i<l.length):(strs l)[i]? =some (.string (S l[i])):=by simp[strs,h]
theorem ql9(w:World)(a:Value)(t:TypeId):∀j u,[a][j]? =some u→(w.alloc (.cells #[a] t)).cell? ((⟨w.heap.size,0,none⟩:Addr).add j)=some u:=by
 intro j u h;match j,h with
 |0,h=>simp at h;subst h;simp[Addr.add]
def qho(c:UInt8):Bool:=(97≤c&&c≤122) ||(65≤c&&c≤90) ||(48≤c&&c≤57) ||c==46 ||c==95 ||c==45
theorem qxa(c:UInt8):qho c=true↔((97≤(c.toNat:Int)∧(c.toNat:Int)≤122)∨(65≤(c.toNat:Int)∧(c.toNat:Int)≤90)∨(48≤(c.toNat:Int)∧(c.toNat:Int)≤57)∨(c.toNat:Int)=46∨(c.toNat:Int)=95∨(c.toNat:Int)=45):=by
 simp only[qho,Bool.or_eq_true,Bool.and_eq_true,decide_eq_true_eq,beq_iff_eq,UInt8.le_iff_toNat_le,←UInt8.toNat_inj];simp
 omega
theorem q4n(c:UInt8):(c.toNat:Int)<256:=by have:=c.toNat_lt;omega
theorem q1i{c d:UInt8}:c=d↔(c.toNat:Int)=(d.toNat:Int):=by rw[←UInt8.toNat_inj];omega
theorem qkr(p:α→Bool)(s:List α)(k:Nat)(h:k<s.length):(s.take (k+1)).all p=((s.take k).all p&&p s[k]):=by
 rw[List.take_succ_eq_append_getElem h,List.all_append];simp
def qba(s:List UInt8):Bool:=!s.isEmpty&&decide (s.length≤60)&&!(s==[46])&&!(s==[46,46])&&!([46,119,104,46].isPrefixOf s)&&s.all qho
def cutB(c:UInt8):List UInt8→List (List UInt8)
 |[]=>[[]]
 |x::r=>if x=c then []::cutB c r else match cutB c r with
  |[]=>[[x]]
  |h::t=>(x::h)::t
theorem qis(c:UInt8)(s:List UInt8):cutB c s≠[]:=by
 cases s with
 |nil=>simp[cutB]
 |cons x r=>
  rw[cutB];split
  ·simp
  ·split <;> simp
theorem qub(c:UInt8)(s:List UInt8):(cutB c s).length≤s.length+1:=by
 induction s with
 |nil=>simp[cutB]
 |cons x r ih=>
  rw[cutB];split
  ·simp;exact ih
  ·split
   ·simp
   ·rename_i h t e
    rw[e] at ih;simp at ih ⊢;omega
theorem qw6(c:UInt8)(p r:List UInt8)(h:c∉p):cutB c (p++c::r)=p::cutB c r:=by
 induction p with
 |nil=>simp[cutB]
 |cons x p ih=>
  have hx:x≠c:=fun e=>h (e▸List.mem_cons_self)
  rw[List.cons_append,cutB,if_neg hx,ih (fun e=>h (List.mem_cons_of_mem _ e))]
theorem ql0(c:UInt8)(p:List UInt8)(h:c∉p):cutB c p=[p]:=by
 induction p with
 |nil=>simp[cutB]
 |cons x p ih=>
  have hx:x≠c:=fun e=>h (e▸List.mem_cons_self)
  rw[cutB,if_neg hx,ih (fun e=>h (List.mem_cons_of_mem _ e))]
def qa0:List (List UInt8)→List UInt8
 |[]=>[]
 |[x]=>x
 |x::y::r=>x++47::qa0 (y::r)
theorem qwg(l:List (List UInt8))(x:List UInt8)(h:l≠[]):qa0 (l++[x])=qa0 l++47::x:=by
 induction l with
 |nil=>exact absurd rfl h
 |cons a l ih=>
  cases l with
  |nil=>simp[qa0]
  |cons b r=>
   have:=ih (by simp);simp only[List.cons_append,qa0] at this ⊢;rw[this];simp
def qb2:List (List UInt8)→Nat
 |[]=>0
 |x::r=>x.length+1+qb2 r
theorem qfc(l m:List (List UInt8)):qb2 (l++m)=qb2 l+qb2 m:=by
 induction l with
 |nil=>simp[qb2]
 |cons a l ih=>simp only[List.cons_append,qb2,ih];omega
theorem qlo(l:List (List UInt8)):(qa0 l).length≤qb2 l:=by
 induction l with
 |nil=>simp[qa0,qb2]
 |cons a l ih=>
  cases l with
  |nil=>simp[qa0,qb2]
  |cons b r=>simp only[qa0,qb2,List.length_append,List.length_cons] at ih ⊢;omega
theorem qjz(l:List (List UInt8))(k:Nat):qb2 (l.take k)≤qb2 l:=by
 have:=qfc (l.take k) (l.drop k);rw[List.take_append_drop] at this;omega
theorem qi8(l:List (List UInt8))(k:Nat)(h:k<l.length):qb2 (l.take k)+l[k].length+1≤qb2 l:=by
 have:=qjz l (k+1);rw[List.take_succ_eq_append_getElem h,qfc] at this;simp only[qb2] at this ⊢;omega
theorem qi9(c:UInt8)(s:List UInt8):qb2 (cutB c s)≤s.length+1:=by
 induction s with
 |nil=>simp[cutB,qb2]
 |cons x r ih=>
  rw[cutB];split
  ·simp[qb2] at ih ⊢;omega
  ·split
   ·simp[qb2]
   ·rename_i h t e
    rw[e] at ih;simp[qb2] at ih ⊢;omega
def qaa(p:List UInt8):List (List UInt8):=if p=[] then [] else cutB 47 p
theorem qhw(p:List UInt8):(qaa p).length≤p.length+1:=by
 unfold qaa;split
 ·simp
 ·exact qub _ _
def qa5(p:List UInt8):Bool:=decide (p.length≤170)&&decide ((qaa p).length≤12)&&(qaa p).all qba
def qer:List (List UInt8)→List (List UInt8)→Option (List (List UInt8))
 |out,[]=>some out
 |out,e::r=>if e=[]∨e=[46] then qer out r else if e=[46,46] then (if out=[] then none else qer out.dropLast r)
  else if qba e=true then qer (out++[e]) r else none
theorem qju(out r:List (List UInt8))(e:List UInt8)(h:e=[]∨e=[46]):qer out (e::r)=qer out r:=by rw[qer,if_pos h]
theorem qyx(r:List (List UInt8)):qer [] ([46,46]::r)=none:=by rw[qer,if_neg (by simp),if_pos rfl,if_pos rfl]
theorem q18(out r:List (List UInt8))(h:out≠[]):qer out ([46,46]::r)=qer out.dropLast r:=by rw[qer,if_neg (by simp),if_pos rfl,if_neg h]
theorem q2a(out r:List (List UInt8))(e:List UInt8)(h0:e≠[])(h1:e≠[46])(h2:e≠[46,46])(h3:qba e=true):qer out (e::r)=qer (out++[e]) r:=by
 rw[qer,if_neg (by simp[h0,h1]),if_neg h2,if_pos h3]
theorem q19(out r:List (List UInt8))(e:List UInt8)(h0:e≠[])(h1:e≠[46])(h2:e≠[46,46])(h3:qba e=false):qer out (e::r)=none:=by
 rw[qer,if_neg (by simp[h0,h1]),if_neg h2,if_neg (by simp[h3])]
def allR(work text:List UInt8):List (List UInt8):=if text.head? =some 47 then cutB 47 text else qaa work++cutB 47 text
def allP(work text:List UInt8):List (List UInt8):=if text.head? =some 47 then cutB 47 text else cutB 47 work++cutB 47 text
theorem qyy(work text:List UInt8):qer [] (allP work text)=qer [] (allR work text):=by
 unfold allP allR qaa;split
 ·rfl
 ·split
  ·rename_i h;subst h;rw[cutB];exact qju _ _ _ (.inl rfl)
  ·rfl
def resB(work text:List UInt8):Option (List (List UInt8)):=qer [] (allR work text)
theorem qz4(work text:List UInt8):qb2 (allR work text)≤work.length+text.length+2∧qb2 (allP work text)≤work.length+text.length+2:=by
 have h1:=qi9 47 work;have h2:=qi9 47 text;have h3:qb2 (qaa work)≤work.length+1:=by unfold qaa;split <;> simp_all [qb2]
 unfold allR allP;constructor <;> split <;> (try rw[qfc]) <;> omega
theorem qja(l:List (List UInt8)):l.length≤qb2 l:=by
 induction l with
 |nil=>simp[qb2]
 |cons a l ih=>simp only[qb2,List.length_cons];omega
theorem qwf(l:List (List UInt8)):qb2 l.dropLast≤qb2 l:=by
 rw[List.dropLast_eq_take];exact qjz _ _
theorem q0i(l:List α)(k:Nat)(h:k<l.length):l.drop k=l[k]::l.drop (k+1):=List.drop_eq_getElem_cons h
theorem qli(l:List α):l=[]∨∃a b,l=a++[b]:=by
 rcases List.eq_nil_or_concat l with h|⟨a,b,h⟩
 ·exact .inl h
 ·exact .inr ⟨a,b,by rw[h,List.concat_eq_append]⟩
theorem qn1(a b:List (List UInt8)):strs (a++b)=strs a++strs b:=by simp[strs]
theorem qad{base:Nat}{size:Nat}(h:w.ownsRow base e size v n xs):∃ao c,v= .slice ao n c:=by
 rcases h.2 with⟨h1,h2⟩|⟨g,cap,cur,hv,_⟩
 ·subst h2;exact⟨none,0,h1⟩
 ·exact⟨_,_,hv⟩
theorem qm4{base:Nat}{size:Nat}(h:w.ownsRow base e size v n xs)(hg:g<base):some g≠v.ownBlock:=by
 rcases h.2 with⟨rfl,_⟩|⟨g',cap,cur,rfl,hb,_⟩
 ·simp[Value.ownBlock]
 ·simp only[Value.ownBlock,ne_eq,Option.some.injEq];omega
theorem qek{base:Nat}{size:Nat}(h:w.ownsRow base e size v n xs):∀k,v.ownBlock=some k→base≤k:=by
 rcases h.2 with⟨rfl,_⟩|⟨g',cap,cur,rfl,hb,_⟩
 ·simp[Value.ownBlock]
 ·intro k hk;simp only[Value.ownBlock,Option.some.injEq] at hk;omega
theorem qac{base:Nat}{size:Nat}(h:w.ownsRow base e size v n xs)(hb:Below w.heap.size w w'):w'.ownsRow base e size v n xs:=by
 obtain⟨h1,h2⟩:=h;refine⟨h1,?_⟩;rcases h2 with h2|⟨g,cap,cur,hv,hg,hh,r⟩
 ·exact .inl h2
 ·exact .inr ⟨g,cap,cur,hv,hg,(hb.block g (q6s hh).1).trans hh,r⟩
theorem qak{base base':Nat}{size:Nat}(h:w.ownsRow base e size v n xs)(hb:base'≤base):w.ownsRow base' e size v n xs:=by
 obtain⟨h1,h2⟩:=h;refine⟨h1,?_⟩;rcases h2 with h2|⟨g,cap,cur,hv,hg,r⟩
 ·exact .inl h2
 ·exact .inr ⟨g,cap,cur,hv,Nat.le_trans hb hg,r⟩
def KeepT(T:TypeId)(w w':World):Prop:=∀(g:Nat) (cur:Array Value),w.heap[g]? =some (Obj.cells cur T (0,0))→w'.heap[g]? =some (Obj.cells cur T (0,0))
theorem KeepT.refl(T:TypeId)(w:World):KeepT T w w:=fun _ _ h=>h
theorem KeepT.trans{a b c:World}(h:KeepT T a b)(k:KeepT T b c):KeepT T a c:=fun g cur e=>k g cur (h g cur e)
theorem KeepT.below(h:Below w.heap.size w w'):KeepT T w w':=fun g cur e=>(h.block g (q6s e).1).trans e
theorem KeepT.drew(h:KeepT T w w'):KeepT T w w'.drew:=h
theorem KeepT.grown{base size:Nat}(hg:w.grownBy w' v.ownBlock)(ho:w.ownsRow base e size v n xs)(hne:e≠T):KeepT T w w':=by
 intro g cur h;refine(hg.block g (q6s h).1 ?_).trans h;rcases ho.2 with⟨rfl,_⟩|⟨g',cap,cur',rfl,hb,hh,_⟩
 ·simp[Value.ownBlock]
 ·intro heq
  simp only[Value.ownBlock,Option.some.injEq] at heq;subst heq;rw[h] at hh;simp only[Option.some.injEq,Obj.cells.injEq] at hh;exact hne hh.2.1.symm
theorem KeepT.setCell{c:Array Value}{fz:Nat×Nat}(hb:w.heap[g]? =some (.cells c e fz))(hne:e≠T)(o:Nat)(u:Value):KeepT T w (w.setCell ⟨g,o,none⟩ u):=by
 intro g' cur h;have:g'≠g:=by
  rintro rfl;rw[h] at hb;simp only[Option.some.injEq,Obj.cells.injEq] at hb;exact hne hb.2.1.symm
 rw[heap_setCell_other w ⟨g,o,none⟩ g' u this];exact h
theorem qao{base size:Nat}(h:w.ownsRow base T size v n xs)(hk:KeepT T w w'):w'.ownsRow base T size v n xs:=by
 obtain⟨h1,h2⟩:=h;refine⟨h1,?_⟩;rcases h2 with h2|⟨g,cap,cur,hv,hg,hh,r⟩
 ·exact .inl h2
 ·exact .inr ⟨g,cap,cur,hv,hg,hk g cur hh,r⟩
abbrev tStr:TypeId:=9
abbrev tMap:TypeId:=164
abbrev tPtr:TypeId:=158
theorem strK:Maps.Keyed Tryz.prog tStr:=Maps.string_keyed Tryz.underlying9
def qp8:Value→Option (DataW Unit×List MemPlace)
 |.pointer none=>some (.nil,[])
 |.pointer (some ⟨b,0,none⟩)=>some (.lit (.int .i64 (b:Int)),[])
 |_=>none
def qv1:Option Nat→Value
 |none=> .pointer none
 |some a=> .pointer (some ⟨a,0,none⟩)
def qsj:Option Nat→DataW Unit
 |none=> .nil
 |some a=> .lit (.int .i64 (a:Int))
theorem qp9{o':Option Nat}(h:qsj o=qsj o'):o=o':=by
 cases o <;> cases o' <;> simp[qsj] at h ⊢
 omega
theorem qzg(h:qp8 v=some (qsj o,ps)):v=qv1 o:=by
 unfold qp8 at h;split at h
 ·simp only[Option.some.injEq,Prod.mk.injEq] at h
  have:o=none:=qp9 (o':=none) h.1.symm;rw[this];rfl
 ·rename_i b
  simp only[Option.some.injEq,Prod.mk.injEq] at h;have:o=some b:=qp9 (o':=some b) h.1.symm;rw[this];rfl
 ·cases h
theorem qv2(h:qp8 v=some y):∃o,v=qv1 o∧y=(qsj o,[]):=by
 unfold qp8 at h;split at h
 ·exact⟨none,rfl,(Option.some.inj h).symm⟩
 ·rename_i b;exact⟨some b,rfl,(Option.some.inj h).symm⟩
 ·cases h
def MapIs(w:World)(b n:Nat)(f:List UInt8→Option Nat):Prop:=
 ∃D:DataW Unit,w.ownsMap Tryz.prog tStr qp8 b n D∧Maps.IsMap D∧∀k,D.atKey (.string k) .nil=qsj (f k)∧Maps.has D (.string k)=(f k).isSome
def upd(f:List UInt8→Option Nat)(k:List UInt8)(o:Option Nat):List UInt8→Option Nat:=fun k'=>if k'=k then o else f k'
theorem keyS(h:s.length≤maxLen):keyOf Tryz.prog tStr (.string (S s))=some (.string s):=by
 have:=Go.WideMaps.keyOf_string_mk Tryz.underlying9 (s:=S s) (by rw[qc0];exact h);exact this
theorem qtn(s:List UInt8):WideAt.IsKeyLit (.string s):=by
 simp[WideAt.IsKeyLit]
theorem MapIs.made(w:World):MapIs (w.alloc (.map #[] 0)) w.heap.size 0 (fun _=>none):=
 ⟨.map [],World.ownsMap_made _ _ _ _,⟨[],rfl⟩,fun k=>⟨rfl,rfl⟩⟩
theorem MapIs.lt(h:MapIs w b n f):b<w.heap.size:=by
 obtain⟨D,h,_⟩:=h;exact h.lt
theorem MapIs.mono(h:MapIs w b n f)(hm:n≤m):MapIs w b m f:=by
 obtain⟨D,h,r⟩:=h;exact⟨D,h.mono hm,r⟩
theorem MapIs.kept(h:MapIs w b n f)(hg:w.grownBy w' row)(hne:some b≠row):MapIs w' b n f:=by
 obtain⟨D,h,r⟩:=h;exact⟨D,h.kept hg hne,r⟩
theorem MapIs.block(h:MapIs w b n f)(hb:w'.heap[b]? =w.heap[b]?):MapIs w' b n f:=by
 obtain⟨D,⟨es,clock,h1,r1⟩,r⟩:=h;exact⟨D,⟨es,clock,hb.trans h1,r1⟩,r⟩
theorem MapIs.look(h:MapIs w b n f)(k:List UInt8)(hk:k.length≤maxLen):
 (Instr.lookup tMap (.map (some b)) (.string (S k)) false).run Tryz.prog w= .ok (qv1 (f k)) w:=by
 obtain⟨D,h,_,r⟩:=h;obtain⟨v,ps,hrun,hv⟩:=h.lookup strK Tryz.underlying164 (z:=.pointer none) (by kernel_rfl) (zd:=.nil) (zp:=[]) rfl (keyS hk);rw[(r k).1] at hv;rw[hrun,qzg hv]
theorem look_nil(w:World)(k:List UInt8)(hk:k.length≤maxLen):(Instr.lookup tMap (.map none) (.string (S k)) false).run Tryz.prog w= .ok (.pointer none) w:=
 Maps.look_nil false strK Tryz.underlying164 (z:=.pointer none) (by kernel_rfl) (keyS hk)
theorem MapIs.put(h:MapIs w b n f)(k:List UInt8)(hk:k.length≤maxLen)(a:Nat)(hn:n<maxLen):
 ∃w',(Instr.mapUpdate tMap (.map (some b)) (.string (S k)) (.pointer (some ⟨a,0,none⟩))).run Tryz.prog w= .ok () w'∧MapIs w' b (n+1) (upd f k (some a))∧w.grownBy w' (some b):=by
 obtain⟨D,h,hm,r⟩:=h;obtain⟨w',hrun,h',hg⟩:=h.update strK Tryz.underlying164 hn (keyS hk) (val:=.pointer (some ⟨a,0,none⟩)) (d:=qsj (some a)) (ps:=[]) rfl;refine⟨w',hrun,⟨_,h',?_,fun k'=>?_⟩,hg⟩
 ·obtain⟨es,rfl⟩:=hm;exact⟨_,rfl⟩
 ·unfold upd
  by_cases e:k'=k
  ·subst e
   rw[if_pos rfl];exact⟨Maps.atKey_put_same hm (qtn _) _ _,Maps.has_put_same hm (qtn _) _⟩
  ·rw[if_neg e]
   have hne:Lit.string k'≠.string k:=fun h=>e (Lit.string.inj h)
   exact⟨(Maps.atKey_put_other hne _ _).trans (r k').1,(Maps.has_put_other hne _).trans (r k').2⟩
theorem qlk(h:w.mapTurned w' b):w.grownBy w' (some b):=by
 obtain⟨es,clock,es',clock',hb,rfl⟩:=h;exact⟨rfl,rfl,rfl,by simp[Go.ChangeMaps.setBlock],fun i _ hi=>Go.ChangeMaps.heap_setBlock_other hb _ (fun e=>hi (by rw[e]))⟩
theorem MapIs.del(h:MapIs w b n f)(k:List UInt8)(hk:k.length≤maxLen)(ty:TypeId):
 ∃w',(Builtin.delete_ #[tMap,tStr] ty #[.map (some b),.string (S k)]).run Tryz.prog w= .ok (.tuple #[]) w'∧MapIs w' b n (upd f k none)∧w.grownBy w' (some b):=by
 obtain⟨D,h,hm,r⟩:=h;obtain⟨w',hrun,h',hg⟩:=h.drop strK Tryz.underlying164 (keyS hk) ty;refine⟨w',hrun,⟨_,h',?_,fun k'=>?_⟩,qlk hg⟩
 ·obtain⟨es,rfl⟩:=hm;exact⟨_,rfl⟩
 ·unfold upd
  by_cases e:k'=k
  ·subst e
   rw[if_pos rfl];exact⟨Maps.atKey_del_same _,Maps.has_del_same⟩
  ·rw[if_neg e]
   have hne:Lit.string k'≠.string k:=fun h=>e (Lit.string.inj h)
   exact⟨(Maps.atKey_del_other hne _).trans (r k').1,(Maps.has_del_other hne).trans (r k').2⟩
structure Std(w:World):Prop where
 maxlen:∃m,w.cell? ⟨2,0,none⟩=some (.int .i64 m)
theorem Std.below(h:Std w)(hb:Below w.heap.size w w'):Std w':=by
 obtain⟨m,hm⟩:=h.maxlen;exact⟨⟨m,(hb.cell (q6r w _ hm)).trans hm⟩⟩
def qhk(c:UInt8):Bool:=65≤c&&c≤90
def qie(c:UInt8):Bool:=qhk c ||(48≤c&&c≤57) ||c==95
theorem qll(c:UInt8):qhk c=true↔65≤(c.toNat:Int)∧(c.toNat:Int)≤90:=by
 simp only[qhk,Bool.and_eq_true,decide_eq_true_eq,UInt8.le_iff_toNat_le];simp;omega
theorem qpk(c:UInt8):qie c=true↔(65≤(c.toNat:Int)∧(c.toNat:Int)≤90)∨(48≤(c.toNat:Int)∧(c.toNat:Int)≤57)∨(c.toNat:Int)=95:=by
 simp only[qie,qhk,Bool.or_eq_true,Bool.and_eq_true,decide_eq_true_eq,beq_iff_eq,UInt8.le_iff_toNat_le,←UInt8.toNat_inj];simp;omega
def qbr:List UInt8→Nat
 |[]=>0
 |c::r=>if qhk c then (r.takeWhile qie).length+1 else 0
theorem qpj{p:UInt8→Bool}(s:List UInt8)(k:Nat)(hk:k≤s.length)(h:∀j (hj:j<k),p s[j]=true)(hs:∀hk:k<s.length,p s[k]=false):(s.takeWhile p).length=k:=by
 induction s generalizing k with
 |nil=>simp at hk;simp[hk]
 |cons c r ih=>
  cases k with
  |zero=>have:=hs (by simp);simp at this;simp[List.takeWhile_cons,this]
  |succ k=>
   have h0:=h 0 (by omega);simp at h0
   rw[List.takeWhile_cons,if_pos h0,List.length_cons,ih k (by simpa using hk) (fun j hj=>by simpa using h (j+1) (by omega)) (fun hk=>hs (by simpa using hk))]
def okG(s:List UInt8)(j:Nat):Bool:=match s[j]? with|none=>false|some c=>if j=0 then qhk c else qie c
theorem qqm(s:List UInt8)(k:Nat)(hk:k≤s.length)(h:∀j,j<k→okG s j=true)(hs:okG s k=false):qbr s=k:=by
 cases s with
 |nil=>simp at hk;simp[hk,qbr]
 |cons c r=>
  cases k with
  |zero=>simp[okG] at hs;simp[qbr,hs]
  |succ k=>
   have h0:=h 0 (by omega);simp[okG] at h0
   rw[qbr,if_pos h0,qpj r k (by simpa using hk)]
   ·intro j hj
    have:=h (j+1) (by omega);have hjl:j<r.length:=by simp at hk;omega
    simp[okG,hjl] at this;exact this
   ·intro hk'
    simp[okG,hk'] at hs;exact hs
theorem qpi(p:UInt8→Bool)(s:List UInt8):(s.takeWhile p).length≤s.length:=by
 induction s with
 |nil=>simp
 |cons c r ih=>rw[List.takeWhile_cons];split <;> simp <;> omega
theorem qfe(s:List UInt8):qbr s≤s.length:=by
 cases s with
 |nil=>simp[qbr]
 |cons c r=>
  rw[qbr];split
  ·have:=qpi qie r;simp;omega
  ·simp
def qhl(s:List UInt8):Bool:=!s.isEmpty&&decide (qbr s=s.length)&&decide (s.length≤10)
def varB(s:List UInt8)(i:Nat):Option (List UInt8×Nat):=
 if s[i+1]? =some 123 then
  (let n:=qbr (s.drop (i+2));if n=0∨10<n∨s[i+2+n]?≠some 125 then none else some ((s.drop (i+2)).take n,n+3))
 else
  (let n:=qbr (s.drop (i+1));if n=0∨10<n then none else some ((s.drop (i+1)).take n,n+1))
def qa2(s:List UInt8)(i:Nat):Bool:=match s[i]? with|none=>true|some c=>c==10
def qb0(s:List UInt8)(i:Nat):Bool:=s[i]? ==some 92&&s[i+1]? ==some 10
inductive Atm where
 |ch (c:UInt8)
 |var (name:List UInt8) (at_:Nat)
 deriving DecidableEq
theorem qds{x:List UInt8}(h:varB s i=some (x,n)):0<n∧i+n≤s.length∧x≠[]∧x.length≤10:=by
 have g1:=qfe (s.drop (i+1));have g2:=qfe (s.drop (i+2));simp only[List.length_drop] at g1 g2;unfold varB at h;split at h
 ·simp only at h
  split at h
  ·cases h
  ·rename_i ho hn
   simp only[Option.some.injEq,Prod.mk.injEq] at h;have h3:s[i+2+qbr (s.drop (i+2))]? =some 125:=by
    apply Classical.byContradiction;intro h9;exact hn (.inr (.inr h9))
   have h4:=(List.getElem?_eq_some_iff.1 h3).1;have hl:x.length=qbr (s.drop (i+2)):=by rw[←h.1,List.length_take,List.length_drop];omega
   refine⟨by omega,by omega,?_,by omega⟩;intro e;rw[e] at hl;simp at hl;omega
 ·simp only at h
  split at h
  ·cases h
  ·simp only[Option.some.injEq,Prod.mk.injEq] at h
   have hl:x.length=qbr (s.drop (i+1)):=by rw[←h.1,List.length_take,List.length_drop];omega
   refine⟨by omega,by omega,?_,by omega⟩;intro e;rw[e] at hl;simp at hl;omega
def qat(s:List UInt8)(q k:Nat)(acc:List Atm):Except Nat (List Atm×Nat):=
 if h:k<s.length then
  if s[k]=10 then .error q
  else if s[k]=34 then .ok (acc,k+1)
  else if s[k]=36 then match hv:varB s k with
   |none=> .error k
   |some (x,n)=>have:=qds hv;qat s q (k+n) (acc++[.var x k])
  else if s[k]=92 then
   if h1:k+1<s.length then
    if s[k+1]=34∨s[k+1]=92∨s[k+1]=36 then qat s q (k+2) (acc++[.ch s[k+1]]) else .error k
   else .error k
  else qat s q (k+1) (acc++[.ch s[k]])
 else .error q
termination_by s.length - k
theorem qd9(s:List UInt8)(q k:Nat)(acc l:List Atm)(n:Nat)(h:qat s q k acc= .ok (l,n)):k<n∧n≤s.length∧l.length+k<n+acc.length:=by
 induction hm:s.length - k using Nat.strongRecOn generalizing k acc with
 |ind m ih=>
  rw[qat] at h;split at h
  ·split at h
   ·cases h
   ·split at h
    ·simp only[Except.ok.injEq,Prod.mk.injEq] at h;obtain⟨rfl,rfl⟩:=h;omega
    ·split at h
     ·split at h
      ·cases h
      ·rename_i x n' hv
       obtain⟨v1,v2,v3,v4⟩:=qds hv;have:=ih (s.length - (k+n')) (by omega) _ _ h rfl;simp at this;omega
     ·split at h
      ·split at h
       ·split at h
        ·have:=ih (s.length - (k+2)) (by omega) _ _ h rfl
         simp at this;omega
        ·cases h
       ·cases h
      ·have:=ih (s.length - (k+1)) (by omega) _ _ h rfl
       simp at this;omega
  ·cases h
def qbf(s:List UInt8)(i:Nat)(acc:List Atm):Except Nat (List Atm×Nat):=
 if h:i<s.length then
  if s[i]=10∨qb0 s i=true∨s[i]=32 then .ok (acc,i)
  else if s[i]=34 then match hq:qat s i (i+1) [] with
   |.error p=> .error p
   |.ok (l,n)=>have:=qd9 _ _ _ _ _ _ hq;qbf s n (acc++l)
  else if s[i]=36 then match hv:varB s i with
   |none=> .error i
   |some (x,n)=>have:=qds hv;qbf s (i+n) (acc++[.var x i])
  else if s[i]=92 then
   if h1:i+1<s.length then qbf s (i+2) (acc++[.ch s[i+1]]) else .error i
  else qbf s (i+1) (acc++[.ch s[i]])
 else .ok (acc,i)
termination_by s.length - i
theorem q40(s:List UInt8):okG s s.length=false:=by simp[okG]
theorem q53(s:List UInt8)(k:Nat)(h:k<s.length):okG s k=if k=0 then qhk s[k] else qie s[k]:=by simp[okG,h]
def u8s(b:List UInt8):List Value:=b.map fun x=> .int .u8 (x.toNat:Int)
theorem qxz(b:List UInt8):(u8s b).length=b.length:=by simp[u8s]
theorem q4m(b:List UInt8)(i:Nat)(h:i<b.length):(u8s b)[i]? =some (.int .u8 ((b[i]).toNat:Int)):=by
 unfold u8s;rw[List.getElem?_map,List.getElem?_eq_getElem h];rfl
theorem qgt{B:Nat}{a:World}(h:Below B a w):Below B a w.drew:=⟨h.os,h.tape,h.output,h.size,h.block⟩
abbrev tVal:TypeId:=205
abbrev tEnv:TypeId:=145
def evR:Value→Option (DataW Unit×List MemPlace)
 |.agg a=>match a.toList with
  |[Value.string s]=>some (.lit (.string s.data.toList),[])
  |_=>none
 |_=>none
def evV(t:List UInt8):Value:=.agg #[.string (S t)]
theorem q3h(t:List UInt8):evR (evV t)=some (.lit (.string t),[]):=by
 simp[evR,evV,qc7]
theorem qoq(h:evR v=some y):∃t,v=evV t∧y=(.lit (.string t),[]):=by
 unfold evR at h;split at h
 ·next a=>
  split at h
  ·next s hs=>
   refine⟨s.data.toList,?_,(Option.some.inj h).symm⟩;unfold evV;rw[S_of];congr 1
   apply Array.ext';rw[hs]
  ·cases h
 ·cases h
theorem q5j{t:List UInt8}(h:evR v=some (.lit (.string t),ps)):v=evV t:=by
 obtain⟨t',rfl,h2⟩:=qoq h;injection h2 with h3 _;injection h3 with h3;injection h3 with h3;rw[h3]
def EnvIs(w:World)(b n:Nat)(f:List UInt8→Option (List UInt8)):Prop:=
 ∃D:DataW Unit,w.ownsMap Tryz.prog tStr evR b n D∧Maps.IsMap D∧∀k,D.atKey (.string k) (.lit (.string []))= .lit (.string ((f k).getD []))∧Maps.has D (.string k)=(f k).isSome
def updE(f:List UInt8→Option (List UInt8))(k t:List UInt8):List UInt8→Option (List UInt8):=fun k'=>if k'=k then some t else f k'
theorem EnvIs.made(w:World):EnvIs (w.alloc (.map #[] 0)) w.heap.size 0 (fun _=>none):=
 ⟨.map [],World.ownsMap_made _ _ _ _,⟨[],rfl⟩,fun k=>⟨rfl,rfl⟩⟩
theorem EnvIs.lt{f:List UInt8→Option (List UInt8)}(h:EnvIs w b n f):b<w.heap.size:=by
 obtain⟨D,h,_⟩:=h;exact h.lt
theorem EnvIs.mono{f:List UInt8→Option (List UInt8)}(h:EnvIs w b n f)(hm:n≤m):EnvIs w b m f:=by
 obtain⟨D,h,r⟩:=h;exact⟨D,h.mono hm,r⟩
theorem EnvIs.kept{f:List UInt8→Option (List UInt8)}(h:EnvIs w b n f)(hg:w.grownBy w' row)(hne:some b≠row):EnvIs w' b n f:=by
 obtain⟨D,h,r⟩:=h;exact⟨D,h.kept hg hne,r⟩
theorem EnvIs.block{f:List UInt8→Option (List UInt8)}(h:EnvIs w b n f)(hb:w'.heap[b]? =w.heap[b]?):EnvIs w' b n f:=by
 obtain⟨D,⟨es,clock,h1,r1⟩,r⟩:=h;exact⟨D,⟨es,clock,hb.trans h1,r1⟩,r⟩
theorem EnvIs.below{f:List UInt8→Option (List UInt8)}(h:EnvIs w b n f)(hb:Below w.heap.size w w'):EnvIs w' b n f:=h.block (hb.block b h.lt)
theorem EnvIs.look{f:List UInt8→Option (List UInt8)}(h:EnvIs w b n f)(k:List UInt8)(hk:k.length≤maxLen):
 (Instr.lookup tEnv (.map (some b)) (.string (S k)) false).run Tryz.prog w= .ok (evV ((f k).getD [])) w:=by
 obtain⟨D,h,_,r⟩:=h;obtain⟨v,ps,hrun,hv⟩:=h.lookup strK Tryz.underlying145 (z:=evV []) (by kernel_rfl) (zd:=.lit (.string [])) (zp:=[]) (q3h []) (keyS hk);rw[(r k).1] at hv;rw[hrun,q5j hv]
theorem EnvIs.put{f:List UInt8→Option (List UInt8)}(h:EnvIs w b n f)(k:List UInt8)(hk:k.length≤maxLen)(t:List UInt8)(hn:n<maxLen):
 ∃w',(Instr.mapUpdate tEnv (.map (some b)) (.string (S k)) (evV t)).run Tryz.prog w= .ok () w'∧EnvIs w' b (n+1) (updE f k t)∧w.grownBy w' (some b):=by
 obtain⟨D,h,hm,r⟩:=h;obtain⟨w',hrun,h',hg⟩:=h.update strK Tryz.underlying145 hn (keyS hk) (val:=evV t) (d:=.lit (.string t)) (ps:=[]) (q3h t);refine⟨w',hrun,⟨_,h',?_,fun k'=>?_⟩,hg⟩
 ·obtain⟨es,rfl⟩:=hm;exact⟨_,rfl⟩
 ·unfold updE
  by_cases e:k'=k
  ·subst e
   rw[if_pos rfl];exact⟨Maps.atKey_put_same hm (qtn _) _ _,Maps.has_put_same hm (qtn _) _⟩
  ·rw[if_neg e]
   have hne:Lit.string k'≠.string k:=fun h=>e (Lit.string.inj h)
   exact⟨(Maps.atKey_put_other hne _ _).trans (r k').1,(Maps.has_put_other hne _).trans (r k').2⟩
end Go.Proofs.YtikdblkfjchjbaaGreatDoor
