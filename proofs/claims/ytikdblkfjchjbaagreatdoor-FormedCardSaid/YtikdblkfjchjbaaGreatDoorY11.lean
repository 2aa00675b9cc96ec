import Derived.Laws.EntriesVeiled
import Derived.Test.YtikdblkfjchjbaaGreatDoorY05
import Derived.Test.YtikdblkfjchjbaaGreatDoorY06
import Derived.Test.YtikdblkfjchjbaaGreatDoorY10
set_option linter.unusedVariables false
set_option linter.unusedSimpArgs false
set_option maxHeartbeats 16000000
set_option maxRecDepth 100000
namespace Go.Proofs.YtikdblkfjchjbaaGreatDoor
open Go Go.RowKit Go.Shelf
variable{l L:List Ent}{w w0 w' W:World}{F G:qag}{D X:Nat→Prop}{wk p r s:List UInt8}{n t g mb B N k:Nat}{E:Obj→Prop}{a m:Pth→Nat}{x:Nd}{e y:Ent}
attribute [local go_sem] Oper.semAt_some
theorem qvd(k:Nat):Fence.wide.room k:=fun d h=>by cases h
theorem YieldAt.wide{m m':Nat}{P:Program}{l:Nat}{args:Array Value}{R:Ending→World→Prop}(h:YieldAt Fence.wide m P l args W R):YieldAt Fence.wide m' P l args W R:=by
 obtain⟨fn,tmps,assign,body,hy,hR⟩:=h;exact⟨fn,tmps,assign,body,hy,hR.1,fun c cs _=>hR.2 c cs (qvd _)⟩
def qtd(X:Nat→Prop)(a m:Pth→Nat)(F:qag):Prop:=∀p x,F p=some x→X (a p)∧(x.kind=1→X (m p))
theorem TreeAt.stayX(h:TreeAt w B N a m F)(hX:qtd X a m F)(hs:∀k,X k→w'.heap[k]? =w.heap[k]?):TreeAt w' B N a m F:=
 ⟨h.tree,fun p x hx=>(hs _ (hX p x hx).1).trans (h.node p x hx),fun p x hx hk=>(h.dir p x hx hk).block (hs _ ((hX p x hx).2 hk)),h.base,h.inj,h.injm⟩
theorem qap{o:Nat}{v:Value}(h:w.cell? ⟨k,o,none⟩=some v)(hs:w'.heap[k]? =w.heap[k]?):w'.cell? ⟨k,o,none⟩=some v:=by
 rw[←h];exact World.cell?_of_block hs
def qfs(F:qag)(p:Pth):Ent:=match F p with|some x=>⟨qa0 p,x.kind,x.mode,x.data⟩|none=>⟨qa0 p,0,0,[]⟩
theorem qgb{p:Pth}(h:F p=some x):qfs F p=⟨qa0 p,x.kind,x.mode,x.data⟩:=by unfold qfs;rw[h]
inductive WalkL(F:qag):Pth→List Ent→Prop
 |mk (p:Pth) (ks:List (List UInt8)) (Ls:List UInt8→List Ent):Rise ks→(∀x,x∈ks↔(F (p++[x])).isSome=true)→(∀x∈ks,WalkL F (p++[x]) (Ls x))→WalkL F p (ks.flatMap fun k=>qfs F (p++[k])::Ls k)
theorem qxe{a b:List UInt8}(h:a<b)(k:b<a):False:=List.lt_irrefl a (List.lt_trans h k)
theorem qr0{l m:List (List UInt8)}(hl:Rise l)(hm:Rise m)(h:∀x,x∈l↔x∈m):l=m:=by
 induction l generalizing m with
 |nil=>
  cases m with
  |nil=>rfl
  |cons y ys=>exact absurd ((h y).2 (by simp)) (by simp)
 |cons x xs ih=>
  cases m with
  |nil=>exact absurd ((h x).1 (by simp)) (by simp)
  |cons y ys=>
   have hx:=List.pairwise_cons.1 hl;have hy:=List.pairwise_cons.1 hm;have hxy:x=y:=by
    rcases List.mem_cons.1 ((h x).1 (by simp)) with e|e
    ·exact e
    ·rcases List.mem_cons.1 ((h y).2 (by simp)) with e2|e2
     ·exact e2.symm
     ·exact(qxe (hy.1 x e) (hx.1 y e2)).elim
   subst hxy;congr 1
   refine ih hx.2 hy.2 fun z=>⟨fun hz=>?_,fun hz=>?_⟩
   ·rcases List.mem_cons.1 ((h z).1 (by simp[hz])) with e|e
    ·subst e;exact absurd (hx.1 z hz) (List.lt_irrefl z)
    ·exact e
   ·rcases List.mem_cons.1 ((h z).2 (by simp[hz])) with e|e
    ·subst e;exact absurd (hy.1 z hz) (List.lt_irrefl z)
    ·exact e
structure FineF(F:qag):Prop where
 join:∀p k,(F (p++[k])).isSome=true→inB (qa0 p) k=qa0 (p++[k])
 len:∀p x,F p=some x→(qa0 p).length≤1000∧p.length≤12
 name:∀p k,(F (p++[k])).isSome=true→k.length≤1000
def encE(e:Ent):Array Value:=#[.string (S e.path),e.agg]
theorem q59{a b:Ent}(h1:qaa a.path=qaa b.path)(h2:ndOf a=ndOf b):a=b:=by
 obtain⟨p,k,m,d⟩:=a;obtain⟨p',k',m',d'⟩:=b;have h3:=qe1 h1;simp only at h3;simp only[ndOf,Nd.mk.injEq] at h2;obtain⟨rfl,rfl,rfl⟩:=h2;rw[h3]
theorem qjw(p a b:List (List UInt8)):qal (p++a) (p++b)=qal a b:=by
 induction p with
 |nil=>rfl
 |cons x xs ih=>rw[List.cons_append,List.cons_append,qal,if_neg (List.lt_irrefl x),if_neg (List.lt_irrefl x)];exact ih
theorem qi4(p r:List (List UInt8))(h:r≠[]):qal p (p++r)<0:=by
 have:=qjw p [] r;rw[List.append_nil] at this;rw[this];cases r with
 |nil=>exact absurd rfl h
 |cons x xs=>simp only[qal,List.length_nil,List.length_cons];omega
theorem qvy{a b:List (List UInt8)}(h:0<qal a b):qal b a<0:=by
 induction a generalizing b with
 |nil=>
  cases b with
  |nil=>simp[qal] at h
  |cons y ys=>simp only[qal,List.length_nil,List.length_cons] at h;omega
 |cons x xs ih=>
  cases b with
  |nil=>simp only[qal,List.length_nil,List.length_cons];omega
  |cons y ys=>
   rw[qal] at h ⊢;by_cases hxy:x<y
   ·rw[if_pos hxy] at h;omega
   ·rw[if_neg hxy] at h
    by_cases hyx:y<x
    ·rw[if_pos hyx];omega
    ·rw[if_neg hyx] at h
     rw[if_neg hyx,if_neg hxy];exact ih h
abbrev qxl(l:List Ent):Prop:=l.Pairwise fun a b=>qal (qaa a.path) (qaa b.path)<0
theorem qpv{m:List Ent}(hl:qxl l)(hm:qxl m)(h:∀x,x∈l↔x∈m):l=m:=by
 induction l generalizing m with
 |nil=>
  cases m with
  |nil=>rfl
  |cons y ys=>exact absurd ((h y).2 (by simp)) (by simp)
 |cons x xs ih=>
  cases m with
  |nil=>exact absurd ((h x).1 (by simp)) (by simp)
  |cons y ys=>
   have hx:=List.pairwise_cons.1 hl;have hy:=List.pairwise_cons.1 hm;have irr:∀z:Ent,¬qal (qaa z.path) (qaa z.path)<0:=fun z hz=>by rw[qe8] at hz;omega
   have hxy:x=y:=by
    rcases List.mem_cons.1 ((h x).1 (by simp)) with e|e
    ·exact e
    ·rcases List.mem_cons.1 ((h y).2 (by simp)) with e2|e2
     ·exact e2.symm
     ·have:=qlg (hy.1 x e);have:=hx.1 y e2;omega
   subst hxy;congr 1
   refine ih hx.2 hy.2 fun z=>⟨fun hz=>?_,fun hz=>?_⟩
   ·rcases List.mem_cons.1 ((h z).1 (by simp[hz])) with e|e
    ·subst e;exact absurd (hx.1 z hz) (irr z)
    ·exact e
   ·rcases List.mem_cons.1 ((h z).2 (by simp[hz])) with e|e
    ·subst e;exact absurd (hy.1 z hz) (irr z)
    ·exact e
theorem Lists.uniqF(h:Lists l F)(k:Lists l G):F=G:=by
 have half:∀{F G:qag},Lists l F→Lists l G→∀p x,F p=some x→G p=some x:=by
  intro F G h k p x hx;rcases h.only p x hx with rfl|⟨e,he,rfl,rfl⟩
  ·rw[h.root] at hx;obtain rfl:=Option.some.inj hx;exact k.root
  ·exact k.mem e he
 funext p
 cases hF:F p with
 |some x=>exact(half h k p x hF).symm
 |none=>
  cases hG:G p with
  |none=>rfl
  |some y=>rw[half k h p y hG] at hF;cases hF
theorem qhi(he:∀e∈l,qa5 e.path=true∧e.path≠[]∧qbh e=true)(hr:qxl l):Lists l (qav l):=by
 suffices hh:∀n (l:List Ent),l.length=n→(∀e∈l,qa5 e.path=true∧e.path≠[]∧qbh e=true)→qxl l→Lists l (qav l) from hh _ l rfl he hr
 intro n;induction n with
 |zero=>intro l hl _ _;rw[List.eq_nil_of_length_eq_zero hl];exact Lists.nil
 |succ n ih=>
  intro l hl he hr;rcases qli l with rfl|⟨a,b,rfl⟩
  ·simp at hl
  ·have hp:=List.pairwise_append.1 hr
   obtain⟨e1,e2,e3⟩:=he b (by simp);rw[show qav (a++[b])=putF (qav a) (qaa b.path) (ndOf b) from qlm _ _ _];exact(ih a (by simpa using hl) (fun e h=>he e (by simp[h])) hp.1).snoc b e1 e2 e3 (fun e h=>hp.2.2 e h b (by simp))
theorem Lists.elems(h:Lists l F){p:Pth}(hx:F p=some x):(∀e∈p,qba e=true)∧(qa0 p).length≤170∧p.length≤12:=by
 rcases h.only p x hx with rfl|⟨e,he,rfl,_⟩
 ·simp[qa0]
 ·obtain⟨hp,_,_⟩:=h.each e he
  obtain⟨h1,h2⟩:=qbb hp;refine⟨h2,by rw[qck];exact h1,?_⟩;unfold qa5 at hp;simp only[Bool.and_eq_true,decide_eq_true_eq] at hp;exact hp.1.2
theorem Lists.fine(h:Lists l F):FineF F:=by
 refine⟨fun p k hk=>?_,fun p x hx=>?_,fun p k hk=>?_⟩
 ·obtain⟨x,hx⟩:=Option.isSome_iff_exists.1 hk
  obtain⟨h1,_,_⟩:=h.elems hx;exact qt2 (fun e he=>(qbx (h1 e (by simp[he]))).1) (qbx (h1 k (by simp))).1
 ·obtain⟨_,h2,h3⟩:=h.elems hx;exact⟨by omega,h3⟩
 ·obtain⟨x,hx⟩:=Option.isSome_iff_exists.1 hk
  have:=(qbx ((h.elems hx).1 k (by simp))).2.1;omega
theorem q4u(l:List (List UInt8)):∃ks,Rise ks∧∀x,x∈ks↔x∈l:=by
 induction l with
 |nil=>exact⟨[],List.Pairwise.nil,fun x=>Iff.rfl⟩
 |cons y r ih=>
  obtain⟨ks,h1,h2⟩:=ih;by_cases hy:y∈ks
  ·refine⟨ks,h1,fun x=>?_⟩
   rw[List.mem_cons,←h2 x];exact⟨.inr,fun h=>h.elim (fun e=>e▸hy) id⟩
  ·refine⟨srt (y::ks),qto (List.nodup_cons.2 ⟨hy,h1.imp (fun {a b} (h:a<b) (e:a=b)=>by subst e;exact List.lt_irrefl a h)⟩),fun x=>?_⟩
   rw[qrs,List.mem_cons,List.mem_cons,h2 x]
theorem Lists.names(h:Lists l F)(p:Pth):∃ks,Rise ks∧∀x,x∈ks↔(F (p++[x])).isSome=true:=by
 obtain⟨ks,h1,h2⟩:=q4u (l.filterMap fun e=>if qaa e.path=p++[(qaa e.path).getLastD []] then some ((qaa e.path).getLastD []) else none);refine⟨ks,h1,fun x=>?_⟩;rw[h2,List.mem_filterMap];constructor
 ·rintro⟨e,he,hx⟩
  split at hx
  ·rename_i hp
   obtain rfl:=Option.some.inj hx;rw[←hp,h.mem e he];rfl
  ·cases hx
 ·intro hx
  obtain⟨y,hy⟩:=Option.isSome_iff_exists.1 hx;rcases h.only _ y hy with e1|⟨e,he,hp,_⟩
  ·simp at e1
  ·refine⟨e,he,?_⟩
   rw[hp,List.getLastD_concat,if_pos rfl]
theorem Lists.walks(h:Lists l F):∀(d:Nat) (p:Pth),p.length+d=13→∃L,WalkL F p L:=by
 intro d;induction d with
 |zero=>
  intro p hp;obtain⟨ks,h1,h2⟩:=h.names p;refine⟨_,.mk p ks (fun _=>[]) h1 h2 fun x hx=>?_⟩;obtain⟨y,hy⟩:=Option.isSome_iff_exists.1 ((h2 x).1 hx);have:=(h.elems hy).2.2;simp only[List.length_append,List.length_singleton] at this;omega
 |succ d ih=>
  intro p hp;obtain⟨ks,h1,h2⟩:=h.names p;have hc:∀x,∃L,WalkL F (p++[x]) L:=fun x=>ih (p++[x]) (by simp;omega)
  exact⟨_,.mk p ks (fun x=>Classical.choose (hc x)) h1 h2 fun x _=>Classical.choose_spec (hc x)⟩
theorem WalkL.mem(hT:IsTree F){p:Pth}(h:WalkL F p L):∀e,e∈L↔∃r x,r≠[]∧F (p++r)=some x∧e=qfs F (p++r):=by
 induction h with
 |mk p ks Ls hR hmem hLs ih=>
  intro e;rw[List.mem_flatMap];constructor
  ·rintro⟨k,hk,he⟩
   rcases List.mem_cons.1 he with rfl|he
   ·obtain⟨y,hy⟩:=Option.isSome_iff_exists.1 ((hmem k).1 hk)
    exact⟨[k],y,by simp,hy,rfl⟩
   ·obtain⟨r,x,_,h2,h3⟩:=(ih k hk e).1 he
    refine⟨k::r,x,by simp,?_,?_⟩
    ·rw[←h2,List.append_assoc];rfl
    ·rw[h3,List.append_assoc];rfl
  ·rintro⟨r,x,h1,h2,h3⟩
   cases r with
   |nil=>exact absurd rfl h1
   |cons k r=>
    have e1:p++k::r=p++[k]++r:=by simp
    rw[e1] at h2 h3;have hk:(F (p++[k])).isSome=true:=by
     cases hF:F (p++[k]) with
     |some _=>rfl
     |none=>rw[hT.pre _ _ hF] at h2;cases h2
    refine⟨k,(hmem k).2 hk,List.mem_cons.2 ?_⟩;by_cases hr:r=[]
    ·subst hr;rw[List.append_nil] at h3;exact .inl h3
    ·exact .inr ((ih k ((hmem k).2 hk) e).2 ⟨r,x,hr,h2,h3⟩)
theorem WalkL.rise(hT:IsTree F)(hP:∀q x,F q=some x→qaa (qa0 q)=q){p:Pth}(h:WalkL F p L):qxl L:=by
 induction h with
 |mk p ks Ls hR hmem hLs ih=>
  have hent:∀q x,F q=some x→qaa (qfs F q).path=q:=fun q x hx=>by rw[qgb hx];exact hP q x hx
  have hin:∀k∈ks,∀e∈qfs F (p++[k])::Ls k,∃r,qaa e.path=p++k::r:=by
   intro k hk e he;rcases List.mem_cons.1 he with rfl|he
   ·obtain⟨y,hy⟩:=Option.isSome_iff_exists.1 ((hmem k).1 hk)
    exact⟨[],hent _ _ hy⟩
   ·obtain⟨r,x,_,h2,rfl⟩:=((hLs k hk).mem hT e).1 he
    exact⟨r,by rw[hent _ _ h2];simp⟩
  refine List.pairwise_flatMap.2 ⟨fun k hk=>List.pairwise_cons.2 ⟨fun e he=>?_,ih k hk⟩,hR.imp_of_mem fun {k1 k2} hk1 hk2 hlt e1 he1 e2 he2=>?_⟩
  ·obtain⟨y,hy⟩:=Option.isSome_iff_exists.1 ((hmem k).1 hk)
   obtain⟨r,x,hr,h2,rfl⟩:=((hLs k hk).mem hT e).1 he;rw[hent _ _ hy,hent _ _ h2];exact qi4 _ _ hr
  ·obtain⟨r1,e1⟩:=hin k1 hk1 e1 he1
   obtain⟨r2,e2⟩:=hin k2 hk2 e2 he2;rw[e1,e2,qjw,qal,if_pos hlt];omega
theorem Lists.walk(h:Lists l F)(hT:IsTree F):WalkL F [] l:=by
 have hP:∀q x,F q=some x→qaa (qa0 q)=q:=fun q x hx=>qe7 fun e he=>by
  have:=qbx ((h.elems hx).1 e he);exact⟨this.1,this.2.2⟩
 obtain⟨L,hL⟩:=h.walks 13 [] (by simp);have e:L=l:=qpv (hL.rise hT hP) h.rise fun e=>by
  rw[hL.mem hT e];constructor
  ·rintro⟨r,x,hr,hx,rfl⟩
   rw[List.nil_append] at hx ⊢;rcases h.only r x hx with rfl|⟨e,he,hp,hn⟩
   ·exact absurd rfl hr
   ·have:qfs F r=e:=q59 (by rw[qgb hx,hp];exact hP r x hx) (by rw[hn,qgb hx];rfl)
    rw[this];exact he
  ·intro he
   obtain⟨_,hne,_⟩:=h.each e he;refine⟨qaa e.path,ndOf e,qcs hne,h.mem e he,?_⟩;rw[List.nil_append,qgb (h.mem e he),qck];rfl
 rw[←e];exact hL
theorem Lists.hup(h:Lists l F)(hT:IsTree F):∀pre y rest,l=pre++y::rest→qa5 y.path=true∧y.path≠[]∧qaw (qav pre) (qaa y.path).dropLast=true:=by
 intro pre y rest hl;obtain⟨h1,h2,h3⟩:=h.each y (by rw[hl];simp);refine⟨h1,h2,?_⟩;have hr:=h.rise;rw[hl] at hr;have hr':=List.pairwise_append.1 hr;have hL:=qhi (l:=pre) (fun e he=>h.each e (by rw[hl];simp[he])) hr'.1;obtain⟨e1,_⟩:=qf3 h1 h2;generalize (qaa y.path).dropLast=d at*;have hy:=h.mem y (by rw[hl];simp);rw[e1] at hy;obtain⟨x,hx,hk⟩:=hT.up d _ (by rw[hy];rfl);rcases h.only d x hx with rfl|⟨e,he,rfl,rfl⟩
 ·exact qaj.2 ⟨_,hL.root,rfl⟩
 ·refine qaj.2 ⟨ndOf e,hL.mem e ?_,hk⟩
  rw[hl] at he;have hlt:qal (qaa e.path) (qaa y.path)<0:=by rw[e1];exact qi4 _ _ (by simp)
  rcases List.mem_append.1 he with he|he
  ·exact he
  ·rcases List.mem_cons.1 he with rfl|he
   ·rw[qe8] at hlt;omega
   ·have:=qlg ((List.pairwise_cons.1 hr'.2.1).1 e he);omega
theorem qj0(h:Lists l F)(d:List UInt8):qb3 l d=qqg F (qaa d):=by
 unfold qb3 qqg;by_cases h0:d=[]
 ·subst h0
  rw[if_pos rfl,show qaa ([]:List UInt8)=[] from rfl,h.root]
 ·rw[if_neg h0]
  cases hf:l.find? (fun e=>decide (e.path=d)) with
  |some e=>
   have h1:=List.find?_some hf;have h2:=List.mem_of_find?_eq_some hf;have h3:e.path=d:=by simpa using h1
   rw[←h3,h.mem e h2];rfl
  |none=>
   cases hF:F (qaa d) with
   |none=>rfl
   |some x=>
    rcases h.only _ x hF with h1|⟨e,he,h1,_⟩
    ·exact absurd h1 (qcs h0)
    ·have:=List.find?_eq_none.1 hf e he
     rw[qe1 h1] at this;simp at this
theorem qnw{p d:List UInt8}:qge p d=true↔qaa d<+:qaa p∧qaa p≠qaa d:=by
 unfold qge;by_cases hd:d=[]
 ·subst hd
  rw[if_pos rfl,show qaa ([]:List UInt8)=[] from rfl];cases p with
  |nil=>simp[qaa]
  |cons x r=>exact⟨fun _=>⟨List.nil_prefix,qcs (by simp)⟩,fun _=>rfl⟩
 ·rw[if_neg hd]
  constructor
  ·intro h
   refine⟨qs8 hd h,fun e=>?_⟩;have:=qe1 e;subst this;have:=(List.isPrefixOf_iff_prefix.1 h).length_le;simp at this;omega
  ·rintro⟨h1,h2⟩
   exact qse hd h1 (fun e=>h2 e.symm)
theorem Lists.filter(h:Lists l F)(keep:Ent→Bool)(h1:∀e∈l,keep e=true→G (qaa e.path)=F (qaa e.path))(h2:∀e∈l,keep e=false→G (qaa e.path)=none)(h3:∀q z,G q=some z→F q=some z)(h4:G []=F []):Lists (l.filter keep) G:=by
 refine⟨fun e he=>h.each e (List.mem_filter.1 he).1,fun e he=>?_,fun p x hx=>?_,h4.trans h.root,h.rise.sublist List.filter_sublist⟩
 ·obtain⟨m1,m2⟩:=List.mem_filter.1 he
  rw[h1 e m1 m2];exact h.mem e m1
 ·rcases h.only p x (h3 p x hx) with e1|⟨e,he,rfl,hn⟩
  ·exact .inl e1
  ·refine .inr ⟨e,List.mem_filter.2 ⟨he,?_⟩,rfl,hn⟩
   cases hk:keep e with
   |true=>rfl
   |false=>rw[h2 e he hk] at hx;cases hx
theorem qm8{x:Ent}:q47 p true x=true↔¬qaa p<+:qaa x.path:=by
 unfold q47;by_cases hx:x.path=p
 ·rw[hx];simp
 ·have hne:qaa x.path≠qaa p:=fun e=>hx (qe1 e)
  have:=@qnw x.path p;cases hb:qge x.path p with
  |true=>rw[hb] at this;have:=(this.1 rfl).1;simp[this]
  |false=>
   rw[hb] at this;have h2:¬qaa p<+:qaa x.path:=fun h=>by have:=this.2 ⟨h,hne⟩;cases this
   simp[hx,h2]
theorem Lists.cut(h:Lists l F)(p:List UInt8)(hp:p≠[]):Lists (qfi l p true) (cutF F (qaa p)):=by
 unfold qfi;refine h.filter _ (fun e _ hk=>?_) (fun e _ hk=>?_) (fun q z hz=>(qos hz).1) ?_
 ·exact qkn (qm8.1 hk)
 ·refine q0m (Classical.not_not.1 fun hn=>?_)
  rw[qm8.2 hn] at hk;cases hk
 ·exact qkn (fun h1=>qcs hp (List.prefix_nil.1 h1))
def qg1(e:Ent)(both:Bool)(x:Ent):Bool:=!(decide (qal (qaa e.path) (qaa x.path)=0) ||(qge x.path e.path&&!both))
theorem qhb(e x:Ent)(both d:Bool)(out:List Ent):qes e both (out,d) x=
 if qal (qaa e.path) (qaa x.path)<0∧d=false then (out++[e]++(if qg1 e both x then [x] else []),true) else (out++(if qg1 e both x then [x] else []),d):=by
 have hk:(qal (qaa e.path) (qaa x.path)=0∨(qge x.path e.path=true∧both=false))↔qg1 e both x=false:=by
  unfold qg1;by_cases h0:qal (qaa e.path) (qaa x.path)=0
  ·simp[h0]
  ·cases qge x.path e.path <;> cases both <;> simp[h0]
 unfold qes;simp only[hk];by_cases h1:qal (qaa e.path) (qaa x.path)<0∧d=false
 ·simp only[if_pos h1]
  cases qg1 e both x <;> simp
 ·simp only[if_neg h1]
  cases qg1 e both x <;> simp
theorem qvl(e:Ent)(both:Bool)(t:List Ent):∀out,t.foldl (qes e both) (out,true)=(out++t.filter (qg1 e both),true):=by
 induction t with
 |nil=>intro out;simp
 |cons x r ih=>
  intro out;rw[List.foldl_cons,qhb,if_neg (by simp),ih];cases hk:qg1 e both x <;> simp[hk]
theorem qsa(e:Ent)(both:Bool)(t:List Ent)(h:∀x∈t,¬qal (qaa e.path) (qaa x.path)<0):∀out,t.foldl (qes e both) (out,false)=(out++t.filter (qg1 e both),false):=by
 induction t with
 |nil=>intro out;simp
 |cons x r ih=>
  intro out;rw[List.foldl_cons,qhb,if_neg (fun hh=>h x (by simp) hh.1),ih (fun y hy=>h y (by simp[hy]))];cases hk:qg1 e both x <;> simp[hk]
theorem q1u(t:List Ent)(hr:qxl t):∃t1 t2,t=t1++t2∧(∀x∈t1,¬qal (qaa e.path) (qaa x.path)<0)∧(∀x∈t2,qal (qaa e.path) (qaa x.path)<0):=by
 induction t with
 |nil=>exact⟨[],[],rfl,by simp,by simp⟩
 |cons x r ih=>
  by_cases hx:qal (qaa e.path) (qaa x.path)<0
  ·refine⟨[],x::r,rfl,by simp,fun y hy=>?_⟩
   rcases List.mem_cons.1 hy with rfl|hy
   ·exact hx
   ·exact qhf hx ((List.pairwise_cons.1 hr).1 y hy)
  ·obtain⟨t1,t2,rfl,h1,h2⟩:=ih (List.pairwise_cons.1 hr).2
   refine⟨x::t1,t2,rfl,fun y hy=>?_,h2⟩;rcases List.mem_cons.1 hy with rfl|hy
   ·exact hx
   ·exact h1 y hy
theorem qy5{t1 t2:List Ent}(h1:∀x∈t1,¬qal (qaa e.path) (qaa x.path)<0)(h2:∀x∈t2,qal (qaa e.path) (qaa x.path)<0):
 putL (t1++t2) e=t1.filter (qg1 e (qh8 (t1++t2) e))++e::t2.filter (qg1 e (qh8 (t1++t2) e)):=by
 unfold putL q4x;generalize qh8 (t1++t2) e=both;rw[List.foldl_append,qsa e both t1 h1];cases t2 with
 |nil=>simp[qtq]
 |cons x r=>
  rw[List.foldl_cons,qhb,if_pos ⟨h2 x (by simp),rfl⟩,qvl];cases hk:qg1 e both x <;> simp[qtq,hk]
theorem Lists.put{t:List Ent}(h:Lists t F)(e:Ent)(hp:qa5 e.path=true)(hne:e.path≠[])(hg:qbh e=true):Lists (putL t e) (putF F (qaa e.path) (ndOf e)):=by
 obtain⟨t1,t2,ht,h1,h2⟩:=q1u (e:=e) t h.rise;have hPne:=qcs hne;have hboth:qh8 t e=true↔(ndOf e).kind=1∧qaw F (qaa e.path)=true:=by
  unfold qh8;rw[Bool.and_eq_true,qjb h _ (Classical.em _),decide_eq_true_eq];exact And.comm
 have hkeep:∀x,qg1 e (qh8 t e) x=true↔qaa x.path≠qaa e.path∧(qaa e.path<+:qaa x.path→(ndOf e).kind=1∧qaw F (qaa e.path)=true):=by
  intro x;rw[←hboth];unfold qg1;by_cases h0:qaa x.path=qaa e.path
  ·rw[h0,qe8];simp
  ·have h3:¬qal (qaa e.path) (qaa x.path)=0:=fun h=>h0 (qlf h).symm
   have h4:=@qnw x.path e.path;cases hb:qge x.path e.path with
   |true=>
    have:=(h4.1 hb).1;cases qh8 t e <;> simp[h3,h0,this]
   |false=>
    have h5:¬qaa e.path<+:qaa x.path:=fun hpre=>by rw[h4.2 ⟨hpre,h0⟩] at hb;cases hb
    simp[h3,h0,h5]
 have hform:putL t e=t1.filter (qg1 e (qh8 t e))++e::t2.filter (qg1 e (qh8 t e)):=by rw[ht];exact qy5 h1 h2
 have hmem:∀x,x∈putL t e↔x=e∨(x∈t∧qg1 e (qh8 t e) x=true):=by
  intro x;rw[hform,List.mem_append,List.mem_cons,List.mem_filter,List.mem_filter];constructor
  ·rintro(⟨m,k⟩|rfl|⟨m,k⟩)
   ·exact .inr ⟨by rw[ht];simp[m],k⟩
   ·exact .inl rfl
   ·exact .inr ⟨by rw[ht];simp[m],k⟩
  ·rintro(rfl|⟨m,k⟩)
   ·exact .inr (.inl rfl)
   ·rw[ht] at m
    rcases List.mem_append.1 m with m|m
    ·exact .inl ⟨m,k⟩
    ·exact .inr (.inr ⟨m,k⟩)
 have hrise:=h.rise;rw[ht] at hrise;have hrp:=List.pairwise_append.1 hrise;refine⟨fun x hx=>?_,fun x hx=>?_,fun q z hz=>?_,?_,?_⟩
 ·rcases(hmem x).1 hx with rfl|⟨m,_⟩
  ·exact⟨hp,hne,hg⟩
  ·exact h.each x m
 ·rcases(hmem x).1 hx with rfl|⟨m,k⟩
  ·exact qe4 _ _ _
  ·obtain⟨k1,k2⟩:=(hkeep x).1 k
   rw[←h.mem x m];by_cases hpre:qaa e.path<+:qaa x.path
   ·rw[qea hpre k1,if_pos (k2 hpre)]
   ·exact qi2 hpre
 ·by_cases hq:q=qaa e.path
  ·subst hq
   rw[qe4] at hz;exact .inr ⟨e,(hmem e).2 (.inl rfl),rfl,Option.some.inj hz⟩
  ·rcases h.only q z (qfk hq hz) with e1|⟨x,m,rfl,hn⟩
   ·exact .inl e1
   ·refine .inr ⟨x,(hmem x).2 (.inr ⟨m,(hkeep x).2 ⟨hq,fun hpre=>?_⟩⟩),rfl,hn⟩
    rw[qea hpre hq] at hz;split at hz
    ·rename_i hc;exact hc
    ·cases hz
 ·rw[qi2 (fun hpre=>hPne (List.prefix_nil.1 hpre))];exact h.root
 ·rw[hform]
  refine List.pairwise_append.2 ⟨hrp.1.sublist List.filter_sublist,List.pairwise_cons.2 ⟨fun x hx=>h2 x (List.mem_filter.1 hx).1,hrp.2.1.sublist List.filter_sublist⟩,fun x hx y hy=>?_⟩;obtain⟨mx,kx⟩:=List.mem_filter.1 hx;rcases List.mem_cons.1 hy with rfl|hy
  ·have h3:¬qal (qaa y.path) (qaa x.path)=0:=fun h=>((hkeep x).1 kx).1 (qlf h).symm
   have:=h1 x mx;exact qvy (by omega)
  ·exact hrp.2.2 x mx y (List.mem_filter.1 hy).1
def qhh(l:List Ent)(at_:List UInt8):List (List UInt8)→Except Int (List Ent)
 |[]=> .ok l
 |e::r=>if qb3 l (inB at_ e)=0 then qhh (putL l ⟨inB at_ e,1,493,[]⟩) (inB at_ e) r else if qb3 l (inB at_ e)=1 then qhh l (inB at_ e) r else .error 9
def qdy(l:List Ent)(p:List UInt8):Except Int (List Ent):=if qa5 p=true then qhh l [] (qaa p) else .error 1
def q2w(l:List Ent)(e:Ent):Bool:=decide (qb3 l e.path=0) ||(decide (qb3 l e.path=1)==decide (e.kind=1))
def layE(l:List Ent)(e:Ent):Except Int (List Ent):=if q2w l e=false then .error 9 else if qa5 e.path=false then .error 1 else .ok (if qb3 l (upB e.path).1=1 then putL l e else l)
def wayL(wk word:List UInt8):Except Int (List UInt8):=match resB wk word with
 |none=> .error 1
 |some out=>if qa5 (qa0 out)=true then .ok (qa0 out) else .error 1
theorem q22(a b:List (List UInt8)):(qa0 a).length≤(qa0 (a++b)).length:=by
 by_cases ha:a=[]
 ·rw[ha];simp[qa0]
 ·by_cases hb:b=[]
  ·rw[hb,List.append_nil];exact Nat.le_refl _
  ·rw[qlp a b ha hb,List.length_append];omega
theorem q5l(h:qa5 p=true):∀e∈qaa p,e≠[]∧(47:UInt8)∉e:=fun e he=>by
 have:=qbx ((qbb h).2 e he);exact⟨this.1,this.2.2⟩
theorem qjv(h:qa5 p=true)(k:Nat):qaa (qa0 ((qaa p).take k))=(qaa p).take k:=qe7 fun e he=>q5l h e (List.mem_of_mem_take he)
theorem qy8(h:qa5 p=true)(k:Nat):qa5 (qa0 ((qaa p).take k))=true:=by
 have h1:=qbb h;have h2:(qaa p).length≤12:=by
  unfold qa5 at h;simp only[Bool.and_eq_true,decide_eq_true_eq] at h;exact h.1.2
 have h3:=q22 ((qaa p).take k) ((qaa p).drop k);rw[List.take_append_drop,qck] at h3;unfold qa5;rw[qjv h];simp only[Bool.and_eq_true,decide_eq_true_eq,List.all_eq_true];exact⟨⟨by omega,by rw[List.length_take];omega⟩,fun e he=>h1.2 e (List.mem_of_mem_take he)⟩
theorem qyh(h:qa5 p=true)(k:Nat)(hk:k<(qaa p).length):inB (qa0 ((qaa p).take k)) (qaa p)[k]=qa0 ((qaa p).take (k+1)):=by
 rw[List.take_succ_eq_append_getElem hk];exact qt2 (fun e he=>(q5l h e (List.mem_of_mem_take he)).1) (q5l h _ (List.getElem_mem hk)).1
theorem q4k(h:qa5 p=true)(k:Nat)(hk:k<(qaa p).length):(upB (qa0 ((qaa p).take (k+1)))).1=qa0 ((qaa p).take k):=by
 unfold upB;rw[qjv h,List.take_succ_eq_append_getElem hk,List.dropLast_concat]
theorem q48(h:qa5 p=true)(k:Nat)(hk:k<(qaa p).length):qa0 ((qaa p).take (k+1))≠[]:=by
 intro e;have:=qjv h (k+1);rw[e] at this;have h2:=congrArg List.length this;rw[List.length_take] at h2;rw[show(qaa ([]:List UInt8)).length=0 from rfl] at h2;omega
theorem q20(h:Lists l (qav l))(x:Ent)(hp:qa5 x.path=true)(hne:x.path≠[])(hg:qbh x=true):qb3 (putL l x) x.path=x.kind:=by
 rw[qj0 (h.put x hp hne hg)];unfold qqg putF;rw[if_pos rfl];rfl
theorem qua(p:List UInt8)(m:Int)(h0:0≤m)(h1:m≤511):qbh ⟨p,1,m,[]⟩=true:=by
 unfold qbh;simp[qh6,h0,h1]
open Go.RowKit
abbrev qfg:TypeId:=208
abbrev qpl:TypeId:=147
def qeq(k:Int):Ending:=.panicked [{v:=.iface qfg (.agg #[.int .i64 k]),recovered:=false}]
theorem qbv(k:Int)(w:World):Calls Tryz.prog 93 #[.bool true,.int .i64 k] w fun e w'=>e= .returned (.tuple #[])∧w=w':=by
 go_enter Tryz.func93,Tryz.ntmps93;go_wp2;go_end0
 exact⟨rfl,rfl⟩
theorem qcd(k:Int)(w:World):Calls Tryz.prog 93 #[.bool false,.int .i64 k] w fun e w'=>e=qeq k∧w=w':=by
 go_enter Tryz.func93,Tryz.ntmps93;go_wp2;exact⟨rfl,rfl,rfl⟩
structure StM(w0 w:World)(n:Nat)(l:List Ent)(t g mb:Nat)(E:Obj→Prop)(D:Nat→Prop)(wk:List UInt8):Prop where
 below:Below w0.heap.size w0 w
 lst:Lists l (qav l)
 len:l.length≤n
 tree:∃N a m,N≤n∧TreeAt w w0.heap.size N a m (qav l)∧TreeV w t a∧(∀p,qaw (qav l) p=true→¬D (m p))∧∀p x,qav l p=some x→¬D (a p)
 blk:w.heap[g]? =some (.cells #[.pointer (some ⟨t,0,none⟩),.map (some mb),.string (S wk)] qpl (0,0))
 env:∃o,w.heap[mb]? =some o∧E o
 own:w0.heap.size≤g∧w0.heap.size≤mb∧w0.heap.size≤t
 way:wk.length≤170
 dmb:D mb
 dlt:∀k,D k→k<w.heap.size
 mg:mb≠g
theorem StM.after(h:StM w0 w n l t g mb E D wk)(hb:Below w.heap.size w w'):StM w0 w' n l t g mb E D wk:=by
 obtain⟨N,a,m,h1,h2,h3,h4⟩:=h.tree;obtain⟨o,e1,e2⟩:=h.env;exact⟨h.below.trans (hb.mono h.below.size),h.lst,h.len,⟨N,a,m,h1,h2.below hb,h3.below hb,h4⟩,(hb.block _ (q6s h.blk).1).trans h.blk,⟨o,(hb.block _ (q6s e1).1).trans e1,e2⟩,h.own,h.way,h.dmb,fun k hk=>Nat.lt_of_lt_of_le (h.dlt k hk) hb.size,h.mg⟩
theorem StM.mono{n':Nat}(h:StM w0 w n l t g mb E D wk)(hn:n≤n'):StM w0 w n' l t g mb E D wk:=by
 obtain⟨N,a,m,h1,h2,h3,h4⟩:=h.tree;exact⟨h.below,h.lst,Nat.le_trans h.len hn,⟨N,a,m,by omega,h2,h3,h4⟩,h.blk,h.env,h.own,h.way,h.dmb,h.dlt,h.mg⟩
theorem StM.cells(h:StM w0 w n l t g mb E D wk):
 w.cell? ⟨g,0,none⟩=some (.pointer (some ⟨t,0,none⟩))∧w.cell? ⟨g,1,none⟩=some (.map (some mb))∧w.cell? ⟨g,2,none⟩=some (.string (S wk)):=by
 refine⟨?_,?_,?_⟩ <;> rw[cell_of_row w _ _ _ _ _ h.blk] <;> rfl
theorem Rd.keepC{A:Option Addr}{cs:List Value}(h:Rd w A cs)(hk:KeepC w w'):Rd w' A cs:=by
 rcases h with h|⟨b,o,e,hc⟩
 ·exact .inl h
 ·exact .inr ⟨b,o,e,fun i u hu=>hk _ _ (hc i u hu)⟩
def StayD(D:Nat→Prop)(w w':World):Prop:=w.heap.size≤w'.heap.size∧∀k,D k→w'.heap[k]? =w.heap[k]?
theorem StayD.trans{a b c:World}(h:StayD D a b)(k:StayD D b c):StayD D a c:=⟨Nat.le_trans h.1 k.1,fun i hi=>(k.2 i hi).trans (h.2 i hi)⟩
theorem StayD.refl(D:Nat→Prop)(a:World):StayD D a a:=⟨Nat.le_refl _,fun _ _=>rfl⟩
theorem StM.stay(h:StM w0 w n l t g mb E D wk)(hb:Below w.heap.size w w'):StayD D w w':=⟨hb.size,fun k hk=>hb.block k (h.dlt k hk)⟩
theorem StM.guard{D':Nat→Prop}(h:StM w0 w n l t g mb E D wk)(hb:Below w.heap.size w w')(hD:∀k,D' k→D k∨(w.heap.size≤k∧k<w'.heap.size))(hm:D' mb):StM w0 w' n l t g mb E D' wk:=by
 have h':=h.after hb;obtain⟨N,a,m,h1,h2,h3,h4,h5⟩:=h.tree;refine⟨h'.below,h'.lst,h'.len,⟨N,a,m,h1,h2.below hb,h3.below hb,fun p hp hd=>?_,fun p x hx hd=>?_⟩,h'.blk,h'.env,h'.own,h'.way,hm,fun k hk=>?_,h'.mg⟩
 ·rcases hD _ hd with e|e
  ·exact h4 p hp e
  ·obtain⟨x,hx,hk⟩:=qaj.1 hp
   have:=(h2.lt p x hx).2 hk;omega
 ·rcases hD _ hd with e|e
  ·exact h5 p x hx e
  ·have:=(h2.lt p x hx).1;omega
 ·rcases hD _ hk with e|e
  ·exact Nat.lt_of_lt_of_le (h.dlt k e) hb.size
  ·exact e.2
theorem StM.poke(h:StM w0 w n l t g mb E D wk)(k:Nat)(hk:D k)(hg:g≠k)(ht:t≠k)(hmb:mb≠k)(hB:Below w0.heap.size w0 w')(hs:w.heap.size≤w'.heap.size)(hw:∀i,i≠k→i<w.heap.size→w'.heap[i]? =w.heap[i]?):StM w0 w' n l t g mb E D wk:=by
 obtain⟨N,a,m,h1,h2,h3,h4,h5⟩:=h.tree;obtain⟨o,e1,e2⟩:=h.env;have htl:t<w.heap.size:=q6r w _ h3;refine⟨hB,h.lst,h.len,⟨N,a,m,h1,⟨h2.tree,fun p x hx=>?_,fun p x hx hd=>?_,h2.base,h2.inj,h2.injm⟩,?_,h4,h5⟩,?_,⟨o,?_,e2⟩,h.own,h.way,h.dmb,fun i hi=>Nat.lt_of_lt_of_le (h.dlt i hi) hs,h.mg⟩
 ·exact(hw (a p) (fun e=>h5 p x hx (by rw[e];exact hk)) (h2.lt p x hx).1).trans (h2.node p x hx)
 ·exact(h2.dir p x hx hd).block (hw (m p) (fun e=>h4 p (qaj.2 ⟨x,hx,hd⟩) (by rw[e];exact hk)) ((h2.lt p x hx).2 hd))
 ·unfold TreeV at h3 ⊢
  rw[←h3];exact World.cell?_of_block (hw t ht htl)
 ·exact(hw g hg (q6s h.blk).1).trans h.blk
 ·exact(hw mb hmb (q6s e1).1).trans e1
theorem StM.pokeC(h:StM w0 w n l t g mb E D wk)(k:Nat){cs:Array Value}{T:TypeId}{fz:Nat×Nat}(hk:w.heap[k]? =some (.cells cs T fz))(hT:T≠qif)(hg:g≠k)(ht:t≠k)(hmb:mb≠k)(hB:Below w0.heap.size w0 w')(hs:w.heap.size≤w'.heap.size)(hw:∀i,i≠k→i<w.heap.size→w'.heap[i]? =w.heap[i]?):StM w0 w' n l t g mb E D wk:=by
 obtain⟨N,a,m,h1,h2,h3,h4,h5⟩:=h.tree;obtain⟨o,e1,e2⟩:=h.env;have htl:t<w.heap.size:=q6r w _ h3;refine⟨hB,h.lst,h.len,⟨N,a,m,h1,⟨h2.tree,fun p x hx=>?_,fun p x hx hd=>?_,h2.base,h2.inj,h2.injm⟩,?_,h4,h5⟩,?_,⟨o,?_,e2⟩,h.own,h.way,h.dmb,fun i hi=>Nat.lt_of_lt_of_le (h.dlt i hi) hs,h.mg⟩
 ·exact(hw (a p) (fun e=>by have:=h2.node p x hx;rw[e,hk] at this;cases this;exact hT rfl) (h2.lt p x hx).1).trans (h2.node p x hx)
 ·exact(h2.dir p x hx hd).block (hw (m p) (fun e=>by obtain⟨Dm,⟨es,cl,e2,_⟩,_⟩:=h2.dir p x hx hd;rw[e,hk] at e2;cases e2) ((h2.lt p x hx).2 hd))
 ·unfold TreeV at h3 ⊢
  rw[←h3];exact World.cell?_of_block (hw t ht htl)
 ·exact(hw g hg (q6s h.blk).1).trans h.blk
 ·exact(hw mb hmb (q6s e1).1).trans e1
theorem StM.work(h:StM w0 w n l t g mb E D wk)(p:List UInt8)(hp:p.length≤170):StM w0 (w.setCell ⟨g,2,none⟩ (.string (S p))) n l t g mb E D p:=by
 obtain⟨N,a,m,h1,h2,h3,h4,h5⟩:=h.tree;obtain⟨o,e1,e2⟩:=h.env;have hw:∀i,i≠g→(w.setCell ⟨g,2,none⟩ (.string (S p))).heap[i]? =w.heap[i]?:=fun i hi=>heap_setCell_other w ⟨g,2,none⟩ i _ hi
 have ha:∀q x,qav l q=some x→a q≠g:=fun q x hx e=>by have:=h2.node q x hx;rw[e,h.blk] at this;cases this
 obtain⟨x0,hx0,_⟩:=h2.tree.root;have ht:t≠g:=fun e=>by
  have h6:=h3;unfold TreeV at h6;rw[e,cell_of_row _ _ _ _ _ _ h.blk] at h6;have h7:t=a []:=by simpa using h6
  exact ha [] x0 hx0 (h7.symm.trans e)
 refine⟨h.below.setCell h.own.1 _,h.lst,h.len,⟨N,a,m,h1,⟨h2.tree,fun q x hx=>?_,fun q x hx hd=>?_,h2.base,h2.inj,h2.injm⟩,?_,h4,h5⟩,?_,⟨o,(hw mb h.mg).trans e1,e2⟩,h.own,hp,h.dmb,fun i hi=>by simpa using h.dlt i hi,h.mg⟩
 ·exact(hw (a q) (ha q x hx)).trans (h2.node q x hx)
 ·exact(h2.dir q x hx hd).block (hw (m q) (fun e=>by obtain⟨Dm,⟨es,cl,e3,_⟩,_⟩:=h2.dir q x hx hd;rw[e,h.blk] at e3;cases e3))
 ·unfold TreeV at h3 ⊢
  rw[←h3];exact World.cell?_of_block (hw t ht)
 ·exact heap_setCell_same w g 2 _ _ (.string (S p)) h.blk
def StOut(w0 w:World)(n:Nat)(t g mb:Nat)(E:Obj→Prop)(D:Nat→Prop)(wk:List UInt8)(r:Except Int (List Ent))(e:Ending)(w':World):Prop:=match r with
 |.ok l'=>e= .returned (.tuple #[])∧StM w0 w' n l' t g mb E D wk∧KeepC w w'∧StayD D w w'
 |.error k=>e=qeq k∧Below w0.heap.size w0 w'∧StayD D w w'
theorem StOut.err{r:Except Int (List Ent)}{k:Int}(h:r= .error k)(hb:Below w0.heap.size w0 w')(hd:StayD D w w'):StOut w0 w n t g mb E D wk r (qeq k) w':=by
 subst h;exact⟨rfl,hb,hd⟩
theorem StOut.ok{r:Except Int (List Ent)}{l':List Ent}(h:r= .ok l')(hm:StM w0 w' n l' t g mb E D wk)(hk:KeepC w w')(hd:StayD D w w'):StOut w0 w n t g mb E D wk r (.returned (.tuple #[])) w':=by
 subst h;exact⟨rfl,hm,hk,hd⟩
def q6e(r:Except Int (List UInt8))(e:Ending):Prop:=match r with
 |.ok p=>e= .returned (.string (S p))
 |.error k=>e=qeq k
theorem qfu(wk s:List UInt8):(∃p,wayL wk s= .ok p∧qg8 wk s= .tuple #[.string (S p),.bool true]∧qa5 p=true)∨(∃q,wayL wk s= .error 1∧qg8 wk s= .tuple #[.string (S q),.bool false]):=by
 unfold wayL;cases hr:resB wk s with
 |none=>exact .inr ⟨[],rfl,qg7 hr⟩
 |some out=>
  cases hp:qa5 (qa0 out) with
  |false=>exact .inr ⟨qa0 out,by simp[hp],by rw[qg6 hr,hp]⟩
  |true=>exact .inl ⟨qa0 out,by simp[hp],by rw[qg6 hr,hp],hp⟩
theorem qca(h:wayL wk s= .ok p):qa5 p=true:=by
 rcases qfu wk s with⟨q,h1,_,h3⟩|⟨q,h1,_⟩
 ·rw[h1] at h;cases h;exact h3
 ·rw[h1] at h;cases h
theorem qfl(h:StM w0 w n l t g mb E D wk)(hS:Std w)(s:List UInt8)(hs:s.length≤5000):
 Calls Tryz.prog 96 #[.pointer (some ⟨g,0,none⟩),.string (S s)] w fun e w'=>q6e (wayL wk s) e∧Below w.heap.size w w':=by
 have hw:=h.way;have HR:=qfj wk s w hS (by omega);obtain⟨c0,c1,c2⟩:=h.cells;clear h hS;rcases qfu wk s with⟨p,h1,h2,_⟩|⟨q,h1,h2⟩
 ·rw[h1]
  rw[h2] at HR;have HR:=q6q HR;go_enter Tryz.func96,Tryz.ntmps96;go_wp2_with fail;refine HR.out.mono ?_;rintro e w1 ⟨rfl,hb1⟩;have HB:=q6q hb1;clear hb1 HR;go_wp2_with fail;refine(qbv 1 _).mono ?_;rintro _ w2 ⟨rfl,rfl⟩;go_wp2;go_ret;exact⟨rfl,HB.out⟩
 ·rw[h1]
  rw[h2] at HR;have HR:=q6q HR;go_enter Tryz.func96,Tryz.ntmps96;go_wp2_with fail;refine HR.out.mono ?_;rintro e w1 ⟨rfl,hb1⟩;have HB:=q6q hb1;clear hb1 HR;go_wp2_with fail;refine(qcd 1 _).mono ?_;rintro _ w2 ⟨rfl,rfl⟩;exact⟨rfl,rfl,HB.out⟩
def qmg(l:List Ent)(x:Ent):List Ent:=if qb3 l (upB x.path).1=1 then putL l x else l
theorem TreeAt.mapObj(h:TreeAt w B N a m F){p:Pth}(hp:qaw F p=true):∃es c,w.heap[m p]? =some (.map es c):=by
 obtain⟨x,h1,h2⟩:=qaj.1 hp;obtain⟨D,⟨es,c,e,_⟩,_⟩:=h.dir p x h1 h2;exact⟨es,c,e⟩
theorem q5m{P:Pth}{p:Pth}(h:qaw (putF F P x) p=true):(p=P∧x.kind=1)∨qaw F p=true:=by
 obtain⟨y,h1,h2⟩:=qaj.1 h;unfold putF at h1;split at h1
 ·rename_i e;obtain rfl:=Option.some.inj h1;exact .inl ⟨e,h2⟩
 ·split at h1
  ·split at h1
   ·exact .inr (qaj.2 ⟨y,h1,h2⟩)
   ·cases h1
  ·exact .inr (qaj.2 ⟨y,h1,h2⟩)
theorem StM.put(h:StM w0 w n l t g mb E D wk)(x:Ent)(hp:qa5 x.path=true)(hne:x.path≠[])(hg:qbh x=true)
 (hN:N≤n)(hT:TreeAt w w0.heap.size N a m (qav l))(hd:(∀p,qaw (qav l) p=true→¬D (m p))∧∀p y,qav l p=some y→¬D (a p)){e:Ending}(hO:PutFull w0.heap.size N a m (qav l) t x w e w'):
 (∃b,e= .returned (.bool b))∧StM w0 w' (n+1) (qmg l x) t g mb E D wk∧KeepC w w'∧StayD D w w':=by
 have hk:decide (qb3 l (upB x.path).1=1)=qaw (qav l) (qaa x.path).dropLast:=by
  rw[qjb h.lst _ (Classical.em _),qkx hp]
 rcases hO with⟨h1,h2,h3,hkc⟩|⟨h1,h2,a',m',h3,h4,h5,hkc,h7,h8,h9⟩
 ·refine⟨⟨_,h2⟩,?_,hkc,h.stay h3⟩
  rw[h1] at hk;unfold qmg;rw[if_neg (of_decide_eq_false hk)];exact(h.after h3).mono (by omega)
 ·refine⟨⟨_,h2⟩,?_,hkc,⟨h5.size,fun k hkD=>h7 k (h.dlt k hkD) fun p hpd e=>hd.1 p hpd (e▸hkD)⟩⟩
  rw[h1] at hk;unfold qmg;rw[if_pos (of_decide_eq_true hk)];have hL:=h.lst.put x hp hne hg;have hF:qav (putL l x)=putF (qav l) (qaa x.path) (ndOf x):=(qhi hL.each hL.rise).uniqF hL;have hgm:∀p,qaw (qav l) p=true→g≠m p:=by
   intro p hpd e;obtain⟨es,c,e2⟩:=hT.mapObj hpd;rw[←e,h.blk] at e2;cases e2
  obtain⟨o,e1,e2⟩:=h.env;refine⟨h.below.trans h5,by rw[hF];exact hL,?_,⟨N+1,a',m',by omega,by rw[hF];exact h3,h4,?_,?_⟩,?_,⟨o,?_,e2⟩,h.own,h.way,h.dmb,fun k hkD=>Nat.lt_of_lt_of_le (h.dlt k hkD) ?_,h.mg⟩
  ·have:=q2b l x;have:=h.len;omega
  ·intro p hpd hem
   rw[hF] at hpd;rcases h9 p with⟨e3,e4⟩|e3
   ·rcases q5m hpd with⟨q1,q2⟩|q
    ·exact hd.1 p (e4 q2 q1) (e3▸hem)
    ·exact hd.1 p q (e3▸hem)
   ·have:=h.dlt _ hem;omega
  ·intro p y hy hem
   rcases h8 p with⟨e3,e4⟩|e3
   ·rw[hF] at hy
    unfold putF at hy;rw[if_neg e4] at hy;have hy2:∃z,qav l p=some z:=by
     split at hy
     ·split at hy
      ·exact⟨y,hy⟩
      ·cases hy
     ·exact⟨y,hy⟩
    obtain⟨z,hz⟩:=hy2;exact hd.2 p z hz (e3▸hem)
   ·have:=h.dlt _ hem;omega
  ·exact(h7 g (q6s h.blk).1 hgm).trans h.blk
  ·exact(h7 mb (q6s e1).1 (fun p hpd e=>hd.1 p hpd (e▸h.dmb))).trans e1
  ·exact Nat.le_trans (Nat.le_refl _) h5.size
theorem qln(h:StM w0 w n l t g mb E D wk)(hS:Std w)(p:List UInt8)(hp:p.length≤4294967280):
 Calls Tryz.prog 69 #[.pointer (some ⟨t,0,none⟩),.string (S p)] w fun e w'=>e= .returned (.int .i64 (qb3 l p))∧Below w.heap.size w w':=by
 obtain⟨N,a,m,_,h2,h3,_⟩:=h.tree;rw[qj0 h.lst];exact kind_any h2 t h3 p hp hS
theorem qob(h:StM w0 w n l t g mb E D wk)(hS:Std w)(x:Ent)(hp:qa5 x.path=true)(hne:x.path≠[])(hg:qbh x=true)(hn:n<4000000000):
 Calls Tryz.prog 98 #[.pointer (some ⟨t,0,none⟩),x.agg] w fun e w'=>(∃b,e= .returned (.bool b))∧StM w0 w' (n+1) (qmg l x) t g mb E D wk∧KeepC w w'∧StayD D w w':=by
 have hb1:Below w.heap.size w (w.alloc (.cells #[.string (S x.path),.int .i64 x.kind,.int .i64 x.mode,.string (S x.data)] 47)):=(Below.refl _ _).alloc (Nat.le_refl _) _;have HM:=q6q (h.after hb1);have HK:=q6q (KeepC.below hb1);have HD:=q6q (h.stay hb1);have HS:=q6q (hS.below hb1);have Q:=q6q (Cell4.new w x 47);obtain⟨q0,q1,q2,q3⟩:=Q.out;have hX:x.agg= .agg #[.string (S x.path),.int .i64 x.kind,.int .i64 x.mode,.string (S x.data)]:=rfl;rw[hX];clear h hS hb1;go_enter Tryz.func98,Tryz.ntmps98;go_wp2_with fail;obtain⟨N,a,m,h1,h2,h3,h4⟩:=HM.out.tree;have hsz:=HM.out.below.size;refine(qr9 h2 t h3 x hp hne (by omega) hsz HS.out).mono ?_;intro e w2 hO
 obtain⟨⟨b,rfl⟩,hM2,hk2,hd2⟩:=HM.out.put x hp hne hg h1 h2 h4 hO;have HM2:=q6q hM2;have HK2:=q6q (HK.out.trans hk2);have HD2:=q6q (HD.out.trans hd2);clear hO hk2 hd2 hM2 h2 h3 h4 HM q0 q1 q2 q3 Q;go_wp2;go_ret;exact⟨⟨b,rfl⟩,HM2.out,HK2.out,HD2.out⟩
theorem qew(h:StM w0 w n l t g mb E D wk)(hS:Std w0)(p:List UInt8)(hp:p.length≤5000)(hn:n<3000000000):
 Calls Tryz.prog 97 #[.pointer (some ⟨g,0,none⟩),.string (S p)] w fun e w'=>StOut w0 w (n+12) t g mb E D wk (qdy l p) e w':=by
 have HS:=q6q hS;have HM:=q6q h;have HP:=q6q (qhe p w (hS.below h.below) (by omega));clear h hS;by_cases hpp:qa5 p=true
 ·have HR:=q6q hpp
  rw[hpp] at HP;have hmd:qdy l p=qhh l [] (qaa p):=if_pos hpp;rw[hmd];have h12:(qaa p).length≤12:=by
   unfold qa5 at hpp;simp only[Bool.and_eq_true,decide_eq_true_eq] at hpp;exact hpp.1.2
  clear hmd hpp;go_enter Tryz.func97,Tryz.ntmps97;go_wp2_with fail;refine HP.out.mono ?_;rintro _ w1 ⟨rfl,hb1⟩;have HM1:=q6q (HM.out.after hb1);have HK1:=q6q (KeepC.below hb1);have HD1:=q6q (HM.out.stay hb1);clear hb1 HM HP;go_wp2_with fail;refine(qbv 1 _).mono ?_;rintro _ w2 ⟨rfl,rfl⟩;go_wp2_with fail;refine(qe2 p w1 (HS.out.below HM1.out.below) (by omega)).mono ?_;rintro _ w3 ⟨v,rfl,hown,hb3⟩;obtain⟨pv,pc,rfl,_,_,hrd⟩:=Rd.of_own hown;have HM3:=q6q (HM1.out.after hb3);have HRd:=q6q hrd;have HK3:=q6q (KeepC.below hb3);have HD3:=q6q (HD1.out.trans (HM1.out.stay hb3));clear hown hb3 hrd HM1
  have HTk:=q6q (fun k (hk:k<(qaa p).length)=>And.intro (qyh HR.out k hk) (And.intro (q4k HR.out k hk) (And.intro (q48 HR.out k hk) (qy8 HR.out (k+1)))));generalize hL:qaa p=L at h12 HRd HTk ⊢;have HLe:=q6q hL;clear hL;rw[show(ByteArray.mk #[])=S [] from rfl];go_wp2;go_loopw [13,4] (fun vi va wr=>∃(k:Nat) (l':List Ent),k≤L.length∧vi= .int .i64 k∧va= .string (S (qa0 (L.take k)))∧Hid (qhh l [] L=qhh l' (qa0 (L.take k)) (L.drop k))∧Hid (qb3 l' (qa0 (L.take k))=1)∧Hid (StM w0 wr (n+k) l' t g mb E D wk)∧Hid (KeepC w3 wr)∧Hid (StayD D w wr)) (fun vi _ _=>L.length - (intOf vi).toNat)
  case atStart=>exact⟨0,l,Nat.zero_le _,rfl,rfl,q6q rfl,q6q rfl,HM3,q6q (fun _ _ hv=>hv),HD3⟩
  case round=>
   obtain⟨k,l',hk,rfl,rfl,HG,HD,HMr,HKr,HDr⟩:=hrel;by_cases hlt:k<L.length
   ·obtain⟨s1,s2,s3,s4⟩:=HTk.out k hlt
    obtain⟨b,o,hpe,hbb,hce⟩:=(HRd.out.keepC HKr.out).at k (by rw[qcx];exact hlt);subst hpe;have he:=hce k (.string (S L[k])) (qc5 hlt);obtain⟨x,hx⟩:∃x,L[k]=x:=⟨_,rfl⟩;rw[hx] at he s1;have hGo:=HG.out;rw[List.drop_eq_getElem_cons hlt,hx,qhh,s1] at hGo;have HQ:=q6q s2;have HN:=q6q s3;have HP:=q6q s4;obtain⟨q,hq⟩:∃q,qa0 (L.take (k+1))=q:=⟨_,rfl⟩;rw[hq] at s1 hGo HQ HN HP;have HQn:=q6q hq;have HG2:=q6q hGo;generalize qa0 (L.take k)=d at s1 HD HQ ⊢;have HS1:=q6q s1;have hql:=(qbb HP.out).1;obtain⟨c0,_,_⟩:=HMr.out.cells;have hkl:(k:Int)<(L.length:Int):=by omega
    have hdl:d.length+x.length≤9000000000:=by
     have:=congrArg List.length s1;unfold inB at this;split at this <;> simp only[List.length_append,List.length_cons] at this <;> omega
    clear s1 s2 s3 s4 hGo hq hx hce HG;go_wp2_with fail;refine(qda d x _ hdl).mono ?_;rintro _ w4 ⟨rfl,rfl⟩;rw[HS1.out];go_wp2_with fail;refine(qln HMr.out (HS.out.below HMr.out.below) q (by omega)).mono ?_;rintro _ w5 ⟨rfl,hb5⟩;have HM5:=q6q (HMr.out.after hb5);have HK5:=q6q (HKr.out.trans (KeepC.below hb5));have HD5:=q6q (HDr.out.trans (HMr.out.stay hb5));obtain⟨z,hz⟩:∃z,qb3 l' q=z:=⟨_,rfl⟩;have HZ:=q6q hz;rw[hz];obtain⟨c0,_,_⟩:=HM5.out.cells;clear hz hb5 HMr HKr HDr;by_cases hz0:z=0
    ·subst hz0
     have hg:=HG2.out;rw[if_pos HZ.out] at hg;have hpi:qmg l' ⟨q,1,493,[]⟩=putL l' ⟨q,1,493,[]⟩:=if_pos (by show qb3 l' (upB q).1=1;rw[HQ.out];exact HD.out);have hkp:=q20 HM5.out.lst ⟨q,1,493,[]⟩ HP.out HN.out (qua q 493 (by decide) (by decide));go_wp2_with fail;refine(qob HM5.out (HS.out.below HM5.out.below) ⟨q,1,493,[]⟩ HP.out HN.out (qua q 493 (by decide) (by decide)) (by omega)).mono ?_;rintro _ w6 ⟨⟨bb,rfl⟩,hm6,hk6,hd6⟩;rw[hpi] at hm6;have HM6:=q6q hm6;have HK6:=q6q (HK5.out.trans hk6);have HD6:=q6q (HD5.out.trans hd6);have HKp:=q6q hkp;have HGn:=q6q hg;clear hm6 hk6 hd6 hkp hg hpi;go_wp2;go_roundw
     case rel=>exact⟨k+1,putL l' ⟨q,1,493,[]⟩,by omega,by go_num,by rw[HQn.out],by rw[HQn.out];exact HGn,by rw[HQn.out];exact HKp,HM6,HK6,HD6⟩
     case measure=>simp[intOf];omega
    ·by_cases hz1:z=1
     ·subst hz1
      have hg:=HG2.out;rw[if_neg (by rw[HZ.out];decide),if_pos HZ.out] at hg;go_wp2;go_roundw
      case rel=>exact⟨k+1,l',by omega,by go_num,by rw[HQn.out],by rw[HQn.out];exact q6q hg,by rw[HQn.out];exact HZ,q6q (HM5.out.mono (by omega)),HK5,HD5⟩
      case measure=>simp[intOf];omega
     ·have hf0:(z==0)=false:=beq_eq_false_iff_ne.2 hz0
      have hf1:(z==1)=false:=beq_eq_false_iff_ne.2 hz1;go_wp2_with fail;refine(qcd 9 _).mono ?_;rintro _ w6 ⟨rfl,rfl⟩;have hg:=HG2.out;rw[if_neg (by rw[HZ.out];exact hz0),if_neg (by rw[HZ.out];exact hz1)] at hg;exact⟨rfl,StOut.err (by rw[HLe.out];exact hg) HM5.out.below HD5.out⟩
   ·obtain rfl:k=L.length:=by omega
    have hg:=HG.out;rw[List.drop_length,qhh] at hg;have HGe:=q6q hg;have HMe:=q6q (HMr.out.mono (n':=n+12) (by omega));have HKe:=q6q (HK1.out.trans (HK3.out.trans HKr.out));clear HMr HKr hg HG;go_wp2;go_end0
    exact StOut.ok (by rw[HLe.out];exact HGe.out) HMe.out HKe.out HDr.out
 ·have hpf:qa5 p=false:=by simpa using hpp
  rw[hpf] at HP;have hmd:qdy l p= .error 1:=if_neg hpp;rw[hmd];clear hmd hpp hpf;go_enter Tryz.func97,Tryz.ntmps97;go_wp2_with fail;refine HP.out.mono ?_;rintro _ w1 ⟨rfl,hb1⟩;have HM1:=q6q (HM.out.after hb1);have HD1:=q6q (HM.out.stay hb1);clear hb1 HM HP;go_wp2_with fail;refine(qcd 1 _).mono ?_;rintro _ w2 ⟨rfl,rfl⟩;exact⟨rfl,rfl,HM1.out.below,HD1.out⟩
theorem qbi{a:World}(h:Below B a w):Below B a w.drew:=⟨h.os,h.tape,h.output,h.size,h.block⟩
theorem StM.drew(h:StM w0 w n l t g mb E D wk):StM w0 w.drew n l t g mb E D wk:=h.after (qbi (Below.refl _ _))
theorem KeepC.drew(h:KeepC w w'):KeepC w w'.drew:=fun p v hv=>h p v hv
theorem qom(h:StM w0 w n l t g mb E D wk)(hS:Std w0)(x:Ent)(hp:x.path.length≤5000)(hne:x.path≠[])(hg:qbh x=true)(hn:n<3000000000):
 Calls Tryz.prog 102 #[.pointer (some ⟨g,0,none⟩),x.agg] w fun e w'=>StOut w0 w (n+1) t g mb E D wk ((layE l x)) e w':=by
 have hb1:Below w.heap.size w (w.alloc (.cells #[.string (S x.path),.int .i64 x.kind,.int .i64 x.mode,.string (S x.data)] 47)):=(Below.refl _ _).alloc (Nat.le_refl _) _;have HM:=q6q (h.after hb1);have HS:=q6q hS;have HK:=q6q (KeepC.below hb1);have HD:=q6q (h.stay hb1);have Q:=q6q (Cell4.new w x 47);have HNe:=q6q hne;have HGd:=q6q hg;have hX:x.agg= .agg #[.string (S x.path),.int .i64 x.kind,.int .i64 x.mode,.string (S x.data)]:=rfl;rw[hX];clear h hS hb1 hne hg;go_enter Tryz.func102,Tryz.ntmps102;go_upto_region 1 with fail;generalize hw1:w.alloc (.cells #[.string (S x.path),.int .i64 x.kind,.int .i64 x.mode,.string (S x.data)] 47)=w1 at HM HK HD Q ⊢
 generalize hbx:w.heap.size=bx at Q ⊢;clear hw1;obtain⟨c0,_,_⟩:=HM.out.cells;obtain⟨q0,q1,q2,q3⟩:=Q.out;go_cut [4] (fun v wx=>v= .int .i64 (qb3 l x.path)∧Hid (StM w0 wx n l t g mb E D wk)∧Hid (Cell4 wx bx x)∧Hid (KeepC w wx)∧Hid (StayD D w wx))
 case first=>
  have HKd:=q6q (qln HM.out.drew (HS.out.below HM.out.drew.below) x.path (by omega));have t1:=fun (w2:World) (hb:Below w1.drew.heap.size w1.drew w2)=>HM.out.drew.after hb
  have t2:=fun (w2:World) (hb:Below w1.drew.heap.size w1.drew w2)=>Cell4.below (W:=w1.drew) Q.out hb
  have t3:=fun (w2:World) (hb:Below w1.drew.heap.size w1.drew w2)=>HK.out.drew.trans (KeepC.below hb)
  have t4:=fun (w2:World) (hb:Below w1.drew.heap.size w1.drew w2)=>HD.out.trans (HM.out.drew.stay hb)
  go_region_with (go_at_call 69;refine HKd.out.mono ?_;rintro e1 w2 ⟨rfl,hb2⟩;have HM2:=q6q (t1 w2 hb2);have HQ2:=q6q (t2 w2 hb2);have HK2:=q6q (t3 w2 hb2);have HD2:=q6q (t4 w2 hb2);clear hb2)
  all_goals
   go_wp2;go_meet
   exact⟨rfl,HM2,HQ2,HK2,HD2⟩
 case rest=>
  obtain⟨rfl,HM2,HQ2,HK2,HD2⟩:=hcut;clear HM Q HK HD c0 q0 q1 q2 q3;obtain⟨q0,q1,q2,q3⟩:=HQ2.out;obtain⟨c0,_,_⟩:=HM2.out.cells;obtain⟨z,hz⟩:∃z,qb3 l x.path=z:=⟨_,rfl⟩;have HZ:=q6q hz;rw[hz];clear hz;cases hlo:q2w l x with
  |false=>
   have HE:=q6q (show layE l x= .error 9 by unfold layE;rw[if_pos hlo]);unfold q2w at hlo;rw[HZ.out] at hlo;have f0:(z==0)=false:=by
    rw[Bool.or_eq_false_iff] at hlo;exact beq_eq_false_iff_ne.2 (of_decide_eq_false hlo.1)
   have f1:((z==1)==(x.kind==1))=false:=by
    rw[Bool.or_eq_false_iff] at hlo;have:=hlo.2;rw[←this];rfl
   clear hlo;go_wp2_with fail;refine(qcd 9 _).mono ?_;rintro _ w3 ⟨rfl,rfl⟩;exact⟨rfl,StOut.err HE.out HM2.out.below HD2.out⟩
  |true=>
   have HL:=q6q hlo;unfold q2w at hlo;rw[HZ.out] at hlo;have hff:(z==0)=true∨((z==0)=false∧((z==1)==(x.kind==1))=true):=by
    by_cases h0:z=0
    ·exact .inl (beq_iff_eq.2 h0)
    ·rw[decide_eq_false h0,Bool.false_or] at hlo
     exact .inr ⟨beq_eq_false_iff_ne.2 h0,hlo⟩
   clear hlo;rcases hff with f0|⟨f0,f1⟩
   all_goals
    go_wp2_with fail;refine(qbv 9 _).mono ?_;rintro _ w3 ⟨rfl,rfl⟩;have HPt:=q6q (qhe x.path wc (HS.out.below HM2.out.below) (by omega));cases hpp:qa5 x.path with
    |false=>
     have HE:=q6q (show layE l x= .error 1 by unfold layE;rw[if_neg (by rw[HL.out];decide),if_pos hpp]);rw[hpp] at HPt;go_wp2_with fail;refine HPt.out.mono ?_;rintro _ w4 ⟨rfl,hb4⟩;have HM4:=q6q (HM2.out.after hb4);have HD4:=q6q (HD2.out.trans (HM2.out.stay hb4));clear hb4 HPt;go_wp2_with fail;refine(qcd 1 _).mono ?_;rintro _ w5 ⟨rfl,rfl⟩;exact⟨rfl,StOut.err HE.out HM4.out.below HD4.out⟩
    |true=>
     have HE:=q6q (show layE l x= .ok (qmg l x) by unfold layE;rw[if_neg (by rw[HL.out];decide),if_neg (by rw[hpp];decide)];rfl);have HPp:=q6q hpp;rw[hpp] at HPt;go_wp2_with fail;refine HPt.out.mono ?_;rintro _ w4 ⟨rfl,hb4⟩;have HM4:=q6q (HM2.out.after hb4);have HQ4:=q6q (HQ2.out.below hb4);have HK4:=q6q (HK2.out.trans (KeepC.below hb4));have HD4:=q6q (HD2.out.trans (HM2.out.stay hb4));clear hb4 HPt q0 q1 q2 q3 c0;go_wp2_with fail;refine(qbv 1 _).mono ?_;rintro _ w5 ⟨rfl,rfl⟩;obtain⟨q0,q1,q2,q3⟩:=HQ4.out;obtain⟨c0,_,_⟩:=HM4.out.cells;have HPu:=q6q (qob HM4.out.drew (HS.out.below HM4.out.drew.below) x HPp.out HNe.out HGd.out (by omega))
     have t3:=fun (w6:World) (hk:KeepC w4.drew w6)=>HK4.out.drew.trans hk
     have t4:=fun (w6:World) (hd:StayD D w4.drew w6)=>HD4.out.trans hd
     go_upto_region 4 with fail;go_region_with (go_at_call 98;refine HPu.out.mono ?_;rintro e6 w6 ⟨⟨bb,rfl⟩,hm6,hk6,hd6⟩;have HM6:=q6q hm6;have HK6:=q6q (t3 w6 hk6);have HD6:=q6q (t4 w6 hd6);clear hm6 hk6 hd6)
     all_goals
      go_wp2;go_end0
      exact StOut.ok HE.out HM6.out HK6.out HD6.out
def qf1(F:qag)(P:Pth):qag:=fun q=>F (P++q)
def qvc(F:qag)(P:Pth):qag:=fun q=>if q=[] then some ⟨1,493,[]⟩ else F (P++q)
def subE(p:List UInt8)(e:Ent):Option Ent:=if qge e.path p=true then some ⟨e.path.drop (p.length+1),e.kind,e.mode,e.data⟩ else none
def subL(l:List Ent)(p:List UInt8):List Ent:=if p=[] then l else l.filterMap (subE p)
theorem qnu(hp:p≠[]):qge s p=true↔∃r,s=p++47::r:=by
 unfold qge;rw[if_neg hp,List.isPrefixOf_iff_prefix];constructor
 ·rintro⟨r,hr⟩;exact⟨r,by rw[←hr];simp⟩
 ·rintro⟨r,hr⟩;exact⟨r,by rw[hr];simp⟩
theorem qp5(hp:p≠[])(hr:r≠[]):qaa (p++47::r)=qaa p++qaa r:=by
 unfold qaa;rw[if_neg (by simp),if_neg hp,if_neg hr,qko]
theorem qyw(hp:p≠[])(h:qa5 (p++47::r)=true):r≠[]:=by
 intro e;subst e;have h2:=(qbb h).2 [] (by
  unfold qaa;rw[if_neg (by simp),qko];simp[cutB])
 exact(qbx h2).1 rfl
theorem q2e(hp:p≠[])(h:qa5 (p++47::r)=true):qa5 r=true:=by
 have hr:=qyw hp h;have h1:=qbb h;have h2:(qaa (p++47::r)).length≤12:=by
  unfold qa5 at h;simp only[Bool.and_eq_true,decide_eq_true_eq] at h;exact h.1.2
 rw[qp5 hp hr] at h1 h2;rw[List.length_append] at h2;have h3:=h1.1;rw[List.length_append,List.length_cons] at h3;unfold qa5;simp only[Bool.and_eq_true,decide_eq_true_eq,List.all_eq_true];exact⟨⟨by omega,by omega⟩,fun e he=>h1.2 e (List.mem_append_right _ he)⟩
theorem qk1(hp:p≠[])(h:subE p e=some y):e.path=p++47::y.path∧y.kind=e.kind∧y.mode=e.mode∧y.data=e.data:=by
 unfold subE at h;split at h
 ·rename_i hb
  obtain⟨r,hr⟩:=(qnu hp).1 hb;obtain rfl:=Option.some.inj h;refine⟨?_,rfl,rfl,rfl⟩;show e.path=p++47::e.path.drop (p.length+1)
  rw[hr];congr 1
  rw[show p.length+1=(p++[47]).length by simp,show p++47::r=(p++[47])++r by simp,List.drop_left'];simp
 ·cases h
theorem qpm(h:Lists l F)(hp:p≠[])(hpp:qa5 p=true):Lists (l.filterMap (subE p)) (qvc F (qaa p)):=by
 have hPne:=qcs hp;have key:∀e∈l,∀y,subE p e=some y→y.path≠[]∧qa5 y.path=true∧qaa e.path=qaa p++qaa y.path:=by
  intro e he y hy;obtain⟨h1,_⟩:=qk1 hp hy;have hpe:=(h.each e he).1;rw[h1] at hpe;have h2:=qyw hp hpe;exact⟨h2,q2e hp hpe,by rw[h1,qp5 hp h2]⟩
 refine⟨fun y hy=>?_,fun y hy=>?_,fun q x hx=>?_,if_pos rfl,?_⟩
 ·obtain⟨e,he,hs⟩:=List.mem_filterMap.1 hy
  obtain⟨k1,k2,_⟩:=key e he y hs;obtain⟨_,g1,g2,g3⟩:=qk1 hp hs;refine⟨k2,k1,?_⟩;have:=(h.each e he).2.2;unfold qbh at this ⊢;rw[g1,g2,g3];exact this
 ·obtain⟨e,he,hs⟩:=List.mem_filterMap.1 hy
  obtain⟨k1,_,k3⟩:=key e he y hs;obtain⟨_,g1,g2,g3⟩:=qk1 hp hs;unfold qvc;rw[if_neg (qcs k1),←k3,h.mem e he];unfold ndOf;rw[g1,g2,g3]
 ·unfold qvc at hx
  split at hx
  ·rename_i e;exact .inl e
  ·rename_i hq
   rcases h.only _ x hx with e|⟨e,he,h1,h2⟩
   ·rw[List.append_eq_nil_iff] at e;exact absurd e.2 hq
   ·right
    have hel:∀z∈q,z≠[]∧(47:UInt8)∉z:=fun z hz=>by
     have:=qbx ((qbb (h.each e he).1).2 z (by rw[h1];exact List.mem_append_right _ hz));exact⟨this.1,this.2.2⟩
    have hpath:e.path=p++47::qa0 q:=by
     rw[←qck e.path,h1,qlp _ _ hPne hq,qck]
    have hb:qge e.path p=true:=(qnu hp).2 ⟨_,hpath⟩;have hd:e.path.drop (p.length+1)=qa0 q:=by
     rw[hpath,show p.length+1=(p++[47]).length by simp,show p++47::qa0 q=(p++[47])++qa0 q by simp,List.drop_left'];simp
    refine⟨⟨qa0 q,e.kind,e.mode,e.data⟩,List.mem_filterMap.2 ⟨e,he,?_⟩,qe7 hel,h2⟩;unfold subE;rw[if_pos hb,hd]
 ·refine List.Pairwise.filterMap (subE p) ?_ (List.Pairwise.and_mem.1 h.rise)
  rintro e e' ⟨he,he',hr⟩ y hy y' hy';obtain⟨_,_,k3⟩:=key e he y hy;obtain⟨_,_,k3'⟩:=key e' he' y' hy';rw[k3,k3',qjw] at hr;exact hr
theorem qpu(h:IsTree F)(P:Pth)(x:Nd)(hx:F P=some x)(hk:x.kind=1):IsTree (qvc F P)∧IsTree (qf1 F P):=by
 refine⟨⟨fun q e hs=>?_,⟨_,if_pos rfl,rfl⟩⟩,⟨fun q e hs=>?_,⟨x,by unfold qf1;rw[List.append_nil];exact hx,hk⟩⟩⟩
 ·unfold qvc at hs ⊢
  rw[if_neg (by simp),←List.append_assoc] at hs;by_cases hq:q=[]
  ·rw[if_pos hq];exact⟨_,rfl,rfl⟩
  ·rw[if_neg hq];exact h.up _ e hs
 ·unfold qf1 at hs ⊢
  rw[←List.append_assoc] at hs;exact h.up _ e hs
theorem WalkL.congr(hFG:∀q,q≠[]→F q=G q){p:Pth}(h:WalkL F p L):WalkL G p L:=by
 induction h with
 |mk p ks Ls h1 h2 h3 ih=>
  have e:(ks.flatMap fun k=>qfs F (p++[k])::Ls k)=ks.flatMap fun k=>qfs G (p++[k])::Ls k:=by
   congr 1;funext k
   unfold qfs;rw[hFG _ (by simp)]
  rw[e];exact WalkL.mk p ks Ls h1 (fun x=>by rw[h2,hFG _ (by simp)]) ih
theorem q1p(h:Lists l F)(hT:IsTree F)(hpp:qa5 p=true)(hx:F (qaa p)=some x)(hk:x.kind=1):WalkL (qf1 F (qaa p)) [] (subL l p)∧FineF (qf1 F (qaa p)):=by
 unfold subL;by_cases hp:p=[]
 ·rw[if_pos hp];subst hp;exact⟨h.walk hT,h.fine⟩
 ·rw[if_neg hp]
  have hL:=qpm h hp hpp;have hc:∀q,q≠[]→qvc F (qaa p) q=qf1 F (qaa p) q:=fun q hq=>if_neg hq
  refine⟨(hL.walk (qpu hT _ x hx hk).1).congr hc,?_⟩;have hf:=hL.fine;exact⟨fun q k hs=>hf.join q k (by rw[hc _ (by simp)];exact hs),fun q y hy=>by
   by_cases hq:q=[]
   ·subst hq;simp[qa0]
   ·exact hf.len q y (by rw[hc _ hq];exact hy),fun q k hs=>hf.name q k (by rw[hc _ (by simp)];exact hs)⟩
theorem TreeAt.shift(h:TreeAt w B N a m F)(P:Pth)(x:Nd)(hx:F P=some x)(hk:x.kind=1):TreeAt w B N (fun q=>a (P++q)) (fun q=>m (P++q)) (qf1 F P):=by
 refine⟨(qpu h.tree P x hx hk).2,fun q y hy=>h.node _ y hy,fun q y hy hk=>?_,fun q y hy=>h.base _ y hy,fun q r h1 h2 e=>List.append_cancel_left (h.inj _ _ h1 h2 e),fun q r h1 h2 e=>List.append_cancel_left (h.injm _ _ h1 h2 e)⟩;have:=h.dir _ y hy hk;have e:qdq (qf1 F P) (fun q=>a (P++q)) q=qdq F a (P++q):=by
  funext k;unfold qdq qf1;rw[List.append_assoc]
 rw[e];exact this
theorem q4r(h:Lists l F)(hpp:qa5 p=true)(hy:y∈subL l p):qa5 y.path=true∧y.path≠[]∧qbh y=true:=by
 unfold subL at hy;by_cases hp:p=[]
 ·rw[if_pos hp] at hy;exact h.each y hy
 ·rw[if_neg hp] at hy;exact(qpm h hp hpp).each y hy
theorem qyc(l:List Ent)(p:List UInt8):(subL l p).length≤l.length:=by
 unfold subL;split
 ·exact Nat.le_refl _
 ·exact List.length_filterMap_le _ _
theorem q4f(d:List UInt8)(h:r≠[]):inB d r≠[]:=by
 unfold inB;split
 ·simp[h]
 ·simp
theorem qt1(d r:List UInt8):(inB d r).length≤d.length+r.length+1:=by
 unfold inB;split <;> simp only[List.length_append,List.length_cons] <;> omega
def qh7(l:List Ent)(p:List UInt8):Option Ent:=l.find? fun e=>decide (e.path=p)
structure Deep(H:qag):Prop where
 len:∀p,(H p).isSome=true→p.length≤12
 names:∀p,∃ks,Rise ks∧∀x,x∈ks↔(H (p++[x])).isSome=true
 pre:∀p k,(H (p++[k])).isSome=true→(H p).isSome=true
def qcn(l:List Ent)(tp:List UInt8):List Ent→Except Int (List Ent)
 |[]=> .ok l
 |e::r=>match layE l ⟨inB tp e.path,e.kind,e.mode,e.data⟩ with
  |.ok l'=>qcn l' tp r
  |.error k=> .error k
def qnk(l:List Ent)(tp dst p:List UInt8):List UInt8:=if ([47]:List UInt8).isSuffixOf dst=true∨qb3 l tp=1 then inB tp (upB p).2 else tp
def qkp(c l:List Ent)(tp dst p:List UInt8):Except Int (List Ent):=
 if qnk l tp dst p=[] then .error 9 else match qdy l (upB (qnk l tp dst p)).1 with
  |.error k=> .error k
  |.ok l1=>match qh7 c p with
   |some e=>layE l1 ⟨qnk l tp dst p,e.kind,e.mode,e.data⟩
   |none=> .error 8
def ql3(c l:List Ent)(tp p:List UInt8):Except Int (List Ent):=match qdy l tp with
 |.error k=> .error k
 |.ok l1=>qcn l1 tp (subL c p)
def qcv(c l:List Ent)(wk src dst:List UInt8):Except Int (List Ent):=match wayL [] src with
 |.error k=> .error k
 |.ok p=>match wayL wk dst with
  |.error k=> .error k
  |.ok tp=>if qb3 c p=0 then .error 8 else if qb3 c p=1 then ql3 c l tp p else qkp c l tp dst p
theorem qxh(k:Int)(w:World):(Instr.typeAssert (.iface qfg (.agg #[.int .i64 k])) 20 208 true).run Tryz.prog w= .ok (.tuple #[.agg #[.int .i64 k],.bool true]) w:=by kernel_rfl
theorem qta(w:World):(Instr.typeAssert .nilIface 20 208 true).run Tryz.prog w= .ok (.tuple #[.agg #[.int .i64 0],.bool false]) w:=by kernel_rfl
theorem qyf(b:Nat)(w:World):
 CallsD Tryz.prog 92 #[.pointer (some ⟨b,0,none⟩)] .returning w fun e u' w'=>e= .returned (.tuple #[])∧u'= .returning∧w'=w.alloc (.cells #[.int .i64 0] qfg):=by
 refine callsD_of_wpS Tryz.func92 rfl fun c₀ cs hu=>?_
 apply wpS_seq;apply wpS_region;simp[wpOpsS,go_sem,recoverD,hu,Tryz.ntmps92,Exit.thenS,qta]
 apply wpS_seq;apply wpS_region;simp[wpOpsS,go_sem,hu,Exit.thenS,Region.wanted,yielded]
 refine wpS_cond (t:=false) (by simp[Act.eval,Array.replicate]) ?_;simp only[Bool.false_eq_true,if_false];refine wpS_of_wp (wp_skip ?_);cases c₀;simp_all [bodyPostS,results,Tryz.results92]
theorem qro(b:Nat)(k:Int)(older:List PanicEntry)(w:World)(v:Value)(hc:w.cell? ⟨b,0,none⟩=some v)(hf:w.frozen? ⟨b,0,none⟩=false):
 CallsD Tryz.prog 92 #[.pointer (some ⟨b,0,none⟩)] (.panicking ({v:=.iface qfg (.agg #[.int .i64 k]),recovered:=false}::older)) w fun e u' w'=>e= .returned (.tuple #[])∧u'= .panicking ({v:=.iface qfg (.agg #[.int .i64 k]),recovered:=true}::older)∧w'=(w.alloc (.cells #[.int .i64 k] qfg)).setCell ⟨b,0,none⟩ (.int .i64 k):=by
 refine callsD_of_wpS Tryz.func92 rfl fun c₀ cs hu=>?_
 have hbA:Below w.heap.size w (w.alloc (.cells #[.int .i64 k] qfg)):=(Below.refl _ _).alloc (Nat.le_refl _) _;have h2l:=q6r w _ hc;have k2:(w.alloc (.cells #[.int .i64 k] qfg)).cell? ⟨b,0,none⟩=some v:=(hbA.cell (p:=⟨b,0,none⟩) h2l).trans hc;have g2:(w.alloc (.cells #[.int .i64 k] qfg)).frozen? ⟨b,0,none⟩=false:=(hbA.frozen (p:=⟨b,0,none⟩) h2l).trans hf;apply wpS_seq;apply wpS_region;simp[wpOpsS,go_sem,recoverD,hu,Tryz.ntmps92,Exit.thenS,qxh]
 apply wpS_seq;apply wpS_region;simp[wpOpsS,go_sem,Exit.thenS,Region.wanted,yielded]
 refine wpS_cond (t:=true) (by simp[Act.eval,Array.replicate]) ?_;simp only[if_true];apply wpS_region;simp[wpOpsS,go_sem,k2,g2,bodyPostS,results,Tryz.results92,Array.replicate]
attribute [local go_sem] Oper.semAt_some
def goV(b3 b4:Nat):Value:=.func (.func 112) #[] #[.pointer (some ⟨b3,0,none⟩),.pointer (some ⟨b4,0,none⟩)]
theorem q4g(hT:TreeAt w0 B N a m F)(hF:FineF F)(hN:N≤4294967290)(X0:Nat→Prop)(hX0:qtd X0 a m F)(l:Nat)(xs:List Ent)(J:List Ent→(Nat→Prop)→World→Prop)(Dz:List PanicEntry→World→Prop)
 (hrely:∀pre X W W',J pre X W→Below W.heap.size W W'→J pre (qd1 X W W') W')
 (hY:∀n pre x rest X W,xs=pre++x::rest→J pre X W→YieldAt Fence.wide n Tryz.prog l (encE x) W fun e W'=>(e= .returned (.bool true)∧J (pre++[x]) X W'∧StaysX X W W')∨∃ch,e= .panicked ch∧Dz ch W')
 (hJX:∀pre X W,J pre X W→∀k,X k→k<W.heap.size)(b3 b4:Nat):
 ∀(d n:Nat) (p:Pth) (x:Nd) (L pre rest:List Ent) (X:Nat→Prop) (W:World),p.length+d=13→F p=some x→WalkL F p L→xs=pre++(L++rest)→J pre X W→(∀k,X0 k→X k)→(∀k,X0 k→W.heap[k]? =w0.heap[k]?)→X b3→X b4→
  W.cell? ⟨b3,0,none⟩=some (.func (.yield l) #[] #[])→W.cell? ⟨b4,0,none⟩=some (goV b3 b4)→
  CallsIn Fence.wide n Tryz.prog 112 #[.pointer (some ⟨a p,0,none⟩),.string (S (qa0 p)),.pointer (some ⟨b3,0,none⟩),.pointer (some ⟨b4,0,none⟩)] W fun e W'=>
   (e= .returned (.bool true)∧∃X',J (pre++L) X' W'∧(∀k,X k→X' k)∧StaysX X W W')∨∃ch,e= .panicked ch∧Dz ch W':=by
 intro d;induction d with
 |zero=>
  intro n p x L pre rest X W hd hx;have:=(hF.len p x hx).2;omega
 |succ d ih=>
  intro n p x L pre rest X W hd hx hL hxs hJ hX hW h3 h4 c3 c4;obtain⟨ks,Ls,hks,hmem,hLs,rfl⟩:∃(ks:List (List UInt8)) (Ls:List UInt8→List Ent),Rise ks∧(∀x,x∈ks↔(F (p++[x])).isSome=true)∧(∀x∈ks,WalkL F (p++[x]) (Ls x))∧L=ks.flatMap (fun k=>qfs F (p++[k])::Ls k):=by
   cases hL with
   |mk _ ks Ls h1 h2 h3=>exact⟨ks,Ls,h1,h2,h3,rfl⟩
  have hT1:=hT.stayX hX0 hW;refine callsIn_of_wp Tryz.func112 rfl trivial ?_ rfl;simp only[Tryz.ntmps112,List.size_toArray,List.length_cons,List.length_nil,Nat.reduceAdd,Nat.reduceSub,Array.replicate_succ,Array.replicate_zero,List.push_toArray,List.append_toArray,List.nil_append,List.cons_append];have hnm:CallsIn Fence.wide (n - 1) Tryz.prog _ _ W _:=callsIn_wide.2 (qzo hT1 p x hx hN);gi_wp2_with ((first|refine⟨trivial,fun h=>(by cases h),?_⟩|refine⟨fun h=>(by cases h),?_⟩|skip);gi_at_call 107;refine hnm.mono ?_;clear hnm;rintro e W1 ⟨ns,A,cap,rfl,hrd,hns,hnsm,hnl,hb1,hfr,hnsl⟩)
  obtain rfl:ns=ks:=qr0 hns hks (fun y=>(hnsm y).trans (hmem y).symm);have HRd:=q6q hrd;have HFr:=q6q hfr;have HNl:=q6q hnl;have HHX:=q6q hX;have HJ1:=q6q (hrely _ _ _ _ hJ hb1);have HS1:Hid (StaysX X W W1):=q6q ⟨hb1.size,fun k hk=>hb1.block k (hJX _ _ _ hJ k hk)⟩;have HXW:=q6q (hJX _ _ _ hJ);have HB1:=q6q hb1;clear hns hnsm hrd hb1 hT1 hL hfr hnl
  gi_loopw [13] (fun i wr=>∃(k:Nat) (X2:Nat→Prop),k≤ns.length∧i= .int .i64 k∧Hid (J (pre++(ns.take k).flatMap (fun k=>qfs F (p++[k])::Ls k)) X2 wr)∧Hid (∀k,X k→X2 k)∧Hid (StaysX X W wr)∧Hid (Rd wr A (strs ns))∧Hid (∀b o,A=some ⟨b,o,none⟩→0<ns.length→X2 b)) (fun i _=>ns.length - (intOf i).toNat)
  case atStart=>
   refine⟨0,qd1 X W W1,Nat.zero_le _,rfl,?_,fun k hk=> .inl hk,HS1,HRd,fun b o hA hp=>?_⟩
   ·exact q6q (by simpa using HJ1.out)
   ·obtain⟨b',o',hA',hlt⟩:=HFr.out hp
    rw[hA] at hA';obtain⟨rfl,rfl⟩:b'=b∧o'=o:=by cases hA';exact⟨rfl,rfl⟩
    obtain⟨b'',o'',hA'',hb'',_⟩:=HRd.out.at 0 (by simp[strs];omega);rw[hA] at hA'';obtain⟨rfl,rfl⟩:b''=b'∧o''=o':=by cases hA'';exact⟨rfl,rfl⟩
    exact .inr ⟨hlt,hb''⟩
  case round=>
   obtain⟨k,X2,hk,rfl,HJ,HX2,HSt,HR,HXb⟩:=hrel;by_cases hlt:k<ns.length
   ·obtain⟨bA,oA,rfl,hbA,hcA⟩:=HR.out.at k (by simp[strs];omega)
    have hck:=hcA k _ (qc5 hlt);obtain⟨nm,hnm⟩:∃nm,ns[k]=nm:=⟨_,rfl⟩;rw[hnm] at hck;have hin:nm∈ns:=hnm▸List.getElem_mem hlt;obtain⟨y,hy⟩:=Option.isSome_iff_exists.1 ((hmem nm).1 hin);have HTr:=q6q (hT.stayX hX0 (fun q hq=>(HSt.out.same q (HHX.out q hq)).trans (hW q hq)));have HE:=q6q (qgb hy);have hnml:nm.length≤maxLen:=HNl.out nm hin;have hlk:=HTr.out.look p x hx nm hnml;rw[show(if (F (p++[nm])).isSome then some (a (p++[nm])) else none)=some (a (p++[nm])) by rw[hy];rfl] at hlk;replace hlk:(Instr.lookup tMap (mapV x (m p)) (.string (S nm)) false).run Tryz.prog wr= .ok (.pointer (some ⟨a (p++[nm]),0,none⟩)) wr:=hlk
    obtain⟨_,_,_,_,p4⟩:=HTr.out.cells p x hx;obtain⟨y0,y1,y2,y3,_⟩:=HTr.out.cells (p++[nm]) y hy;have hjn:=hF.join p nm (by rw[hy];rfl);have hjl:=(hF.len _ y hy).1;have hjp:=(hF.len _ x hx).1;have hnl2:=hF.name p nm (by rw[hy];rfl);have HJn:Hid (∀w,CallsIn Fence.wide (n - 1) Tryz.prog 109 #[.string (S (qa0 p)),.string (S nm)] w fun e w'=>e= .returned (.string (S (qa0 (p++[nm]))))∧w=w'):=q6q fun w=>by
     have h:=qda (qa0 p) nm w (by omega);rw[hjn] at h;exact callsIn_wide.2 h
    clear hcA;gi_wp2_with ((first|refine⟨trivial,fun h=>(by cases h),?_⟩|refine⟨fun h=>(by cases h),?_⟩|skip);gi_at_call 109;refine(HJn.out _).mono ?_;rintro e wj ⟨rfl,rfl⟩)
    obtain⟨w2,hw2⟩:∃w2,(wr.alloc (Obj.cells #[.string (S (qa0 (p++[nm]))),.int .i64 y.kind,.int .i64 y.mode,.string (S y.data)] 47)).drew=w2:=⟨_,rfl⟩;have hb2:Below wr.heap.size wr w2:=by rw[←hw2];exact((Below.refl _ _).alloc (Nat.le_refl _) _).drew
    have hbox:w2.heap[wr.heap.size]? =some (Obj.cells #[.string (S (qa0 (p++[nm]))),.int .i64 y.kind,.int .i64 y.mode,.string (S y.data)] 47 (0,0)):=by rw[←hw2];exact heap_alloc_new wr _
    have hsz2:w2.heap.size=wr.heap.size+1:=by rw[←hw2];exact World.size_alloc wr _
    have hJ2:=hrely _ _ _ _ HJ.out hb2;have hsplit:ns=ns.take k++nm::ns.drop (k+1):=by rw[←hnm];exact(List.take_append_drop k ns).symm.trans (by rw[List.drop_eq_getElem_cons hlt])
    have hxs2:xs=(pre++(ns.take k).flatMap (fun k=>qfs F (p++[k])::Ls k))++qfs F (p++[nm])::(Ls nm++((ns.drop (k+1)).flatMap (fun k=>qfs F (p++[k])::Ls k)++rest)):=by
     rw[hxs];conv=>lhs;rw[hsplit]
     simp only[List.flatMap_append,List.flatMap_cons,List.append_assoc,List.cons_append]
    obtain⟨fn,tmps,assign,body,hy2,hR⟩:=hY (n - 1) _ _ _ _ _ hxs2 hJ2;have hSw2:StaysX X W w2:=HSt.out.trans ⟨hb2.size,fun q hq=>hb2.block q (Nat.lt_of_lt_of_le (HXW.out q hq) HSt.out.size)⟩;have e3:w2.cell? ⟨b3,0,none⟩=some (.func (.yield l) #[] #[]):=qap c3 (hSw2.same b3 h3);rw[HE.out] at hy2;simp only[encE,Ent.agg] at hy2;obtain⟨gx,hgx⟩:∃g,g=wr.heap.size:=⟨_,rfl⟩;have q0:w2.cell? ⟨wr.heap.size,0,none⟩=some (.string (S (qa0 (p++[nm])))):=by rw[cell_of_row w2 _ _ _ _ _ hbox];rfl
    have q1:w2.cell? ⟨wr.heap.size,1,none⟩=some (.int .i64 y.kind):=by rw[cell_of_row w2 _ _ _ _ _ hbox];rfl
    have q2:w2.cell? ⟨wr.heap.size,2,none⟩=some (.int .i64 y.mode):=by rw[cell_of_row w2 _ _ _ _ _ hbox];rfl
    have q3:w2.cell? ⟨wr.heap.size,3,none⟩=some (.string (S y.data)):=by rw[cell_of_row w2 _ _ _ _ _ hbox];rfl
    have FX3:Hid (∀w3,StaysX (qd1 X2 wr w2) w2 w3→w3.cell? ⟨wr.heap.size,0,none⟩=some (.string (S (qa0 (p++[nm]))))∧w3.cell? ⟨wr.heap.size,1,none⟩=some (.int .i64 y.kind)∧w3.cell? ⟨wr.heap.size,2,none⟩=some (.int .i64 y.mode)∧w3.cell? ⟨wr.heap.size,3,none⟩=some (.string (S y.data))∧w3.cell? ⟨b4,0,none⟩=some (.func (.func 112) #[] #[.pointer (some ⟨b3,0,none⟩),.pointer (some ⟨b4,0,none⟩)])∧w3.cell? ⟨b3,0,none⟩=some (.func (.yield l) #[] #[])∧w3.cell? ⟨a p,4,none⟩=some (mapV x (m p))∧
     (Instr.lookup tMap (mapV x (m p)) (.string (S nm)) false).run Tryz.prog w3= .ok (.pointer (some ⟨a (p++[nm]),0,none⟩)) w3∧(∀q,X0 q→w3.heap[q]? =w0.heap[q]?)∧StaysX X W w3):=q6q fun w3 h=>by
     have hXX:∀q,X q→w3.heap[q]? =w2.heap[q]?:=fun q hq=>h.same q (.inl (HX2.out q hq))
     have hS:StaysX X W w3:=hSw2.trans ⟨h.size,hXX⟩;have h0:∀q,X0 q→w3.heap[q]? =w0.heap[q]?:=fun q hq=>(hS.same q (HHX.out q hq)).trans (hW q hq)
     have hT3:=hT.stayX hX0 h0;have hl:=hT3.look p x hx nm hnml;rw[show(if (F (p++[nm])).isSome then some (a (p++[nm])) else none)=some (a (p++[nm])) by rw[hy];rfl] at hl;have hbx:=h.same wr.heap.size (.inr ⟨Nat.le_refl _,by omega⟩);exact⟨qap q0 hbx,qap q1 hbx,qap q2 hbx,qap q3 hbx,qap c4 (hS.same _ h4),qap c3 (hS.same _ h3),(hT3.cells p x hx).2.2.2.2,hl,h0,hS⟩
    have HY:=q6q hy;have HIH:Hid (∀w3,StaysX (qd1 X2 wr w2) w2 w3→J (pre++(ns.take k).flatMap (fun k=>qfs F (p++[k])::Ls k)++[qfs F (p++[nm])]) (qd1 X2 wr w2) w3→
     CallsIn Fence.wide (n - 1) Tryz.prog 112 #[.pointer (some ⟨a (p++[nm]),0,none⟩),.string (S (qa0 (p++[nm]))),.pointer (some ⟨b3,0,none⟩),.pointer (some ⟨b4,0,none⟩)] w3 fun e w4=>
      (e= .returned (.bool true)∧∃X4,Hid (J (pre++(ns.take k).flatMap (fun k=>qfs F (p++[k])::Ls k)++[qfs F (p++[nm])]++Ls nm) X4 w4)∧Hid (∀q,X q→X4 q)∧Hid (∀q,X2 q→X4 q)∧Hid (StaysX (qd1 X2 wr w2) w2 w4))∨∃ch,e= .panicked ch∧Dz ch w4):=q6q fun w3 h hj=>by
     obtain⟨_,_,_,_,f1,f2,_,_,f5,_⟩:=FX3.out w3 h;refine(ih (n - 1) (p++[nm]) y (Ls nm) _ ((ns.drop (k+1)).flatMap (fun k=>qfs F (p++[k])::Ls k)++rest) _ w3 (by simp;omega) hy (hLs nm hin) (by rw[hxs2];simp only[List.append_assoc,List.cons_append,List.nil_append]) hj (fun q hq=> .inl (HX2.out q (HHX.out q hq))) f5 (.inl (HX2.out _ h3)) (.inl (HX2.out _ h4)) f2 f1).mono ?_;rintro e w4 (⟨he,X4,hJ4,hX4,hS4⟩|hz)
     ·exact .inl ⟨he,X4,hJ4,fun q hq=>hX4 q (.inl (HX2.out q hq)),fun q hq=>hX4 q (.inl hq),h.trans hS4⟩
     ·exact .inr hz
    clear hy hlk p4 y0 y1 y2 y3 hck hJ2 HTr hsplit hxs hJ c3 c4;refine qny (S:=StaysX (qd1 X2 wr w2) w2) (by kernel_rfl) (by rw[hw2];exact StaysX.refl _ _) (fun hHeld=>?_);rw[hw2] at hHeld ⊢;refine qa7 (i:=0) (oi:=⟨some 30,_,_,_,_,_⟩) (v:=?_) rfl rfl (by kernel_rfl) (by kernel_rfl) (by kernel_rfl) (fun _ _ _ h=>h) (Or.inl ⟨by rfl,?_⟩) (fun _=>rfl) (by assumption) ?_;rotate_left
    ·(intro w hSw;obtain⟨s0,s1,s2,s3,s4,s5,s6,s7,_⟩:=FX3.out w hSw;clear hSw;go_simp;first|done|(with_reducible rfl))
    simp only[Act.put,List.setIfInBounds_toArray,List.set_cons_zero,List.set_cons_succ];refine qa7 (i:=1) (oi:=⟨some 31,_,_,_,_,_⟩) (v:=?_) rfl rfl (by kernel_rfl) (by kernel_rfl) (by kernel_rfl) (fun _ _ _ h=>h) (Or.inl ⟨by rfl,?_⟩) (fun _=>rfl) (by assumption) ?_;rotate_left
    ·(intro w hSw;obtain⟨s0,s1,s2,s3,s4,s5,s6,s7,_⟩:=FX3.out w hSw;clear hSw;go_simp;first|done|(with_reducible rfl))
    simp only[Act.put,List.setIfInBounds_toArray,List.set_cons_zero,List.set_cons_succ];refine qa7 (i:=2) (oi:=⟨some 32,_,_,_,_,_⟩) (v:=?_) rfl rfl (by kernel_rfl) (by kernel_rfl) (by kernel_rfl) (fun _ _ _ h=>h) (Or.inl ⟨by rfl,?_⟩) (fun _=>rfl) (by assumption) ?_;rotate_left
    ·(intro w hSw;obtain⟨s0,s1,s2,s3,s4,s5,s6,s7,_⟩:=FX3.out w hSw;clear hSw;go_simp;first|done|(with_reducible rfl))
    simp only[Act.put,List.setIfInBounds_toArray,List.set_cons_zero,List.set_cons_succ];refine qa7 (i:=3) (oi:=⟨some 33,_,_,_,_,_⟩) (v:=?_) rfl rfl (by kernel_rfl) (by kernel_rfl) (by kernel_rfl) (fun _ _ _ h=>h) (Or.inl ⟨by rfl,?_⟩) (fun _=>rfl) (by assumption) ?_;rotate_left
    ·(intro w hSw;obtain⟨s0,s1,s2,s3,s4,s5,s6,s7,_⟩:=FX3.out w hSw;clear hSw;go_simp;first|done|(with_reducible rfl))
    simp only[Act.put,List.setIfInBounds_toArray,List.set_cons_zero,List.set_cons_succ];refine qmp (i:=4) (by kernel_rfl) rfl (fun K' hK'=>?_);go_simp
    (first|refine⟨trivial,fun h=>(by cases h),?_⟩|refine⟨fun h=>(by cases h),?_⟩|skip)
    refine hR.mono ?_;rintro e5 w3 (⟨rfl,hJ3,hS3⟩|⟨ch,rfl,hz⟩);rotate_left
    ·exact⟨rfl,.inr ⟨ch,rfl,hz⟩⟩
    refine hK' _ _ hS3 ?_;(try dsimp only)
    (try simp only[Act.put,List.setIfInBounds_toArray,List.set_cons_zero,List.set_cons_succ])
    refine qa7 (i:=5) (oi:=⟨some 35,_,_,_,_,_⟩) (v:=?_) rfl rfl (by kernel_rfl) (by kernel_rfl) (by kernel_rfl) (fun _ _ _ h=>h) (Or.inl ⟨by rfl,?_⟩) (fun _=>rfl) (by assumption) ?_;rotate_left
    ·(intro w hSw;obtain⟨s0,s1,s2,s3,s4,s5,s6,s7,_⟩:=FX3.out w hSw;clear hSw;go_simp;first|done|(with_reducible rfl))
    simp only[Act.put,List.setIfInBounds_toArray,List.set_cons_zero,List.set_cons_succ];refine qa7 (i:=6) (oi:=⟨some 36,_,_,_,_,_⟩) (v:=?_) rfl rfl (by kernel_rfl) (by kernel_rfl) (by kernel_rfl) (fun _ _ _ h=>h) (Or.inl ⟨by rfl,?_⟩) (fun _=>rfl) (by assumption) ?_;rotate_left
    ·(intro w hSw;obtain⟨s0,s1,s2,s3,s4,s5,s6,s7,_⟩:=FX3.out w hSw;clear hSw;go_simp;first|done|(with_reducible rfl))
    simp only[Act.put,List.setIfInBounds_toArray,List.set_cons_zero,List.set_cons_succ];refine qa7 (i:=7) (oi:=⟨some 37,_,_,_,_,_⟩) (v:=?_) rfl rfl (by kernel_rfl) (by kernel_rfl) (by kernel_rfl) (fun _ _ _ h=>h) (Or.inl ⟨by rfl,?_⟩) (fun _=>rfl) (by assumption) ?_;rotate_left
    ·(intro w hSw;obtain⟨s0,s1,s2,s3,s4,s5,s6,s7,_⟩:=FX3.out w hSw;clear hSw;go_simp;first|done|(with_reducible rfl))
    simp only[Act.put,List.setIfInBounds_toArray,List.set_cons_zero,List.set_cons_succ];refine qa7 (i:=8) (oi:=⟨some 38,_,_,_,_,_⟩) (v:=?_) rfl rfl (by kernel_rfl) (by kernel_rfl) (by kernel_rfl) (fun _ _ _ h=>h) (Or.inl ⟨by rfl,?_⟩) (fun _=>rfl) (by assumption) ?_;rotate_left
    ·(intro w hSw;obtain⟨s0,s1,s2,s3,s4,s5,s6,s7,_⟩:=FX3.out w hSw;clear hSw;go_simp;first|done|(with_reducible rfl))
    simp only[Act.put,List.setIfInBounds_toArray,List.set_cons_zero,List.set_cons_succ];refine qa7 (i:=9) (oi:=⟨some 39,_,_,_,_,_⟩) (v:=?_) rfl rfl (by kernel_rfl) (by kernel_rfl) (by kernel_rfl) (fun _ _ _ h=>h) (Or.inl ⟨by rfl,?_⟩) (fun _=>rfl) (by assumption) ?_;rotate_left
    ·(intro w hSw;obtain⟨s0,s1,s2,s3,s4,s5,s6,s7,_⟩:=FX3.out w hSw;clear hSw;go_simp;first|done|(with_reducible rfl))
    simp only[Act.put,List.setIfInBounds_toArray,List.set_cons_zero,List.set_cons_succ];refine qa7 (i:=10) (oi:=⟨some 40,_,_,_,_,_⟩) (v:=?_) rfl rfl (by kernel_rfl) (by kernel_rfl) (by kernel_rfl) (fun _ _ _ h=>h) (Or.inl ⟨by rfl,?_⟩) (fun _=>rfl) (by assumption) ?_;rotate_left
    ·(intro w hSw;obtain⟨s0,s1,s2,s3,s4,s5,s6,s7,_⟩:=FX3.out w hSw;clear hSw;go_simp;first|done|(with_reducible rfl))
    simp only[Act.put,List.setIfInBounds_toArray,List.set_cons_zero,List.set_cons_succ];refine qa7 (i:=11) (oi:=⟨some 41,_,_,_,_,_⟩) (v:=?_) rfl rfl (by kernel_rfl) (by kernel_rfl) (by kernel_rfl) (fun _ _ _ h=>h) (Or.inl ⟨by rfl,?_⟩) (fun _=>rfl) (by assumption) ?_;rotate_left
    ·(intro w hSw;obtain⟨s0,s1,s2,s3,s4,s5,s6,s7,_⟩:=FX3.out w hSw;clear hSw;go_simp;first|done|(with_reducible rfl))
    simp only[Act.put,List.setIfInBounds_toArray,List.set_cons_zero,List.set_cons_succ];refine qa7 (i:=12) (oi:=⟨some 42,_,_,_,_,_⟩) (v:=?_) rfl rfl (by kernel_rfl) (by kernel_rfl) (by kernel_rfl) (fun _ _ _ h=>h) (Or.inl ⟨by rfl,?_⟩) (fun _=>rfl) (by assumption) ?_;rotate_left
    ·(intro w hSw;obtain⟨s0,s1,s2,s3,s4,s5,s6,s7,_⟩:=FX3.out w hSw;clear hSw;go_simp;first|done|(with_reducible rfl))
    simp only[Act.put,List.setIfInBounds_toArray,List.set_cons_zero,List.set_cons_succ];refine qa7 (i:=13) (oi:=⟨some 43,_,_,_,_,_⟩) (v:=?_) rfl rfl (by kernel_rfl) (by kernel_rfl) (by kernel_rfl) (fun _ _ _ h=>h) (Or.inl ⟨by rfl,?_⟩) (fun _=>rfl) (by assumption) ?_;rotate_left
    ·(intro w hSw;obtain⟨s0,s1,s2,s3,s4,s5,s6,s7,_⟩:=FX3.out w hSw;clear hSw;go_simp;first|done|(with_reducible rfl))
    simp only[Act.put,List.setIfInBounds_toArray,List.set_cons_zero,List.set_cons_succ];refine qa7 (i:=14) (oi:=⟨some 44,_,_,_,_,_⟩) (v:=?_) rfl rfl (by kernel_rfl) (by kernel_rfl) (by kernel_rfl) (fun _ _ _ h=>h) (Or.inl ⟨by rfl,?_⟩) (fun _=>rfl) (by assumption) ?_;rotate_left
    ·(intro w hSw;obtain⟨s0,s1,s2,s3,s4,s5,s6,s7,_⟩:=FX3.out w hSw;clear hSw;go_simp;first|done|(with_reducible rfl))
    simp only[Act.put,List.setIfInBounds_toArray,List.set_cons_zero,List.set_cons_succ];refine qa7 (i:=15) (oi:=⟨some 45,_,_,_,_,_⟩) (v:=?_) rfl rfl (by kernel_rfl) (by kernel_rfl) (by kernel_rfl) (fun _ _ _ h=>h) (Or.inl ⟨by rfl,?_⟩) (fun _=>rfl) (by assumption) ?_;rotate_left
    ·(intro w hSw;obtain⟨s0,s1,s2,s3,s4,s5,s6,s7,_⟩:=FX3.out w hSw;clear hSw;go_simp;first|done|(with_reducible rfl))
    simp only[Act.put,List.setIfInBounds_toArray,List.set_cons_zero,List.set_cons_succ];refine qmp (i:=16) (by kernel_rfl) rfl (fun K2 hK2=>?_);go_simp
    (first|refine⟨trivial,fun h=>(by cases h),?_⟩|refine⟨fun h=>(by cases h),?_⟩|skip)
    gi_at_call 112
    refine(HIH.out w3 hS3 hJ3).mono ?_;rintro e6 w4 (⟨rfl,X4,HJ4,HX4,HX24,HS4⟩|⟨ch,rfl,hz⟩);rotate_left
    ·exact⟨rfl,.inr ⟨ch,rfl,hz⟩⟩
    refine hK2 _ _ HS4.out ?_;(try dsimp only)
    (try simp only[Act.put,List.setIfInBounds_toArray,List.set_cons_zero,List.set_cons_succ])
    have hS4:=HS4.out;refine qa7 (i:=17) (oi:=⟨some 47,_,_,_,_,_⟩) (v:=?_) rfl rfl (by kernel_rfl) (by kernel_rfl) (by kernel_rfl) (fun _ _ _ h=>h) (Or.inl ⟨by rfl,?_⟩) (fun _=>rfl) (by assumption) ?_;rotate_left
    ·(intro w hSw;obtain⟨s0,s1,s2,s3,s4,s5,s6,s7,_⟩:=FX3.out w hSw;clear hSw;go_simp;first|done|(with_reducible rfl))
    simp only[Act.put,List.setIfInBounds_toArray,List.set_cons_zero,List.set_cons_succ];refine qa7 (i:=18) (oi:=⟨some 48,_,_,_,_,_⟩) (v:=?_) rfl rfl (by kernel_rfl) (by kernel_rfl) (by kernel_rfl) (fun _ _ _ h=>h) (Or.inl ⟨by rfl,?_⟩) (fun _=>rfl) (by assumption) ?_;rotate_left
    ·(intro w hSw;obtain⟨s0,s1,s2,s3,s4,s5,s6,s7,_⟩:=FX3.out w hSw;clear hSw;go_simp;first|done|(with_reducible rfl))
    simp only[Act.put,List.setIfInBounds_toArray,List.set_cons_zero,List.set_cons_succ];refine qrg (by kernel_rfl) ?_ _;have HJ5:Hid (J (pre++(ns.take (k+1)).flatMap (fun k=>qfs F (p++[k])::Ls k)) X4 w4):=q6q (by
     have e:ns.take (k+1)=ns.take k++[nm]:=by rw[List.take_succ_eq_append_getElem hlt,hnm]
     rw[e,List.flatMap_append];have h:=HJ4.out;simpa using h)
    have HS5:Hid (StaysX X W w4):=q6q (hSw2.trans ⟨HS4.out.size,fun q hq=>HS4.out.same q (.inl (HX2.out q hq))⟩);have HR5:Hid (Rd w4 (some ⟨bA,oA,none⟩) (strs ns)):=q6q (by
     rcases HR.out with h|⟨b,o,hA,hc⟩
     ·exact .inl h
     ·refine .inr ⟨b,o,hA,fun i u hu=>?_⟩
      obtain⟨rfl,rfl⟩:bA=b∧oA=o:=by cases hA;exact⟨rfl,rfl⟩
      exact qap (hc i u hu) ((HS4.out.same bA (.inl (HXb.out bA oA rfl (by omega)))).trans (hb2.block bA hbA)))
    have HX5:Hid (∀b o,(some ⟨bA,oA,none⟩:Option Addr)=some ⟨b,o,none⟩→0<ns.length→X4 b):=q6q (fun b o h hp=>HX24.out b (HXb.out b o h hp));have hwk:IntKind.i64.wrap ((k:Int)+1)=(k:Int)+1:=by rw[IntKind.wrap_i64];omega
    gi_wp2
    go_roundw
    case rel=>exact⟨k+1,X4,by omega,by go_num,HJ5,HX4,HS5,HR5,HX5⟩
    case measure=>simp[intOf];omega
   ·obtain rfl:k=ns.length:=by omega
    rw[List.take_length] at HJ;gi_wp2
    go_ret;exact .inl ⟨rfl,X2,HJ.out,HX2.out,HSt.out⟩
attribute [local go_sem] Oper.semAt_some
def StdX(X:Nat→Prop):Prop:=X 2
theorem Std.stayX(h:Std w)(hX:StdX X)(hs:∀k,X k→w'.heap[k]? =w.heap[k]?):Std w':=by
 obtain⟨m,hm⟩:=h.maxlen;exact⟨⟨m,qap hm (hs _ hX)⟩⟩
theorem qkv(hT:TreeAt w0 B N a m F)(hF:FineF F)(hN:N≤4294967290)(hS:Std w0)(t:Nat)(hV:TreeV w0 t a)(X0:Nat→Prop)(hX0:qtd X0 a m F)(hXS:StdX X0)(hXt:X0 t)
 (b1 b2:Nat)(hX1:X0 b1)(hX2:X0 b2)(c1:w0.cell? ⟨b1,0,none⟩=some (.pointer (some ⟨t,0,none⟩)))(c2:w0.cell? ⟨b2,0,none⟩=some (.string (S [])))(L:List Ent)(hL:WalkL F [] L)(x:Nd)(hx:F []=some x)(n:Nat):
 qul Fence.wide n Tryz.prog 111 #[.pointer (some ⟨b1,0,none⟩),.pointer (some ⟨b2,0,none⟩)] encE L X0 w0:=by
 intro l J Dz X W hrely hY hJX hX hW hJ;have d1:W.cell? ⟨b1,0,none⟩=some (.pointer (some ⟨t,0,none⟩)):=qap c1 (hW _ hX1);have d2:W.cell? ⟨b2,0,none⟩=some (.string (S [])):=qap c2 (hW _ hX2);have hT1:=hT.stayX hX0 hW;have hS1:=hS.stayX hXS hW;have hV1:TreeV W t a:=qap hV (hW _ hXt);have hYn:∀n pre x rest X W,L=pre++x::rest→J pre X W→YieldAt Fence.wide n Tryz.prog l (encE x) W fun e W'=>(e= .returned (.bool true)∧J (pre++[x]) X W'∧StaysX X W W')∨∃ch,e= .panicked ch∧Dz ch W':=fun n' pre x rest X W h1 h2=>YieldAt.wide (hY pre x rest X W h1 h2)
 obtain⟨w2,hw2⟩:∃w2,(W.alloc (Obj.cells #[.func (.yield l) #[] #[]] 221)).alloc (Obj.cells #[goV W.heap.size (W.heap.size+1)] 222)=w2:=⟨_,rfl⟩;have hb2:Below W.heap.size W w2:=by rw[←hw2];exact((Below.refl _ _).alloc (Nat.le_refl _) _).alloc (by simp) _
 have hsz:w2.heap.size=W.heap.size+2:=by rw[←hw2];simp
 have k3:w2.heap[W.heap.size]? =some (Obj.cells #[.func (.yield l) #[] #[]] 221):=by rw[←hw2];exact(Below.heap_alloc (W.alloc _) _ W.heap.size (by simp)).trans (Go.heap_alloc_new W _)
 have k4:w2.heap[W.heap.size+1]? =some (Obj.cells #[goV W.heap.size (W.heap.size+1)] 222):=by
  rw[←hw2];have:=Go.heap_alloc_new (W.alloc (Obj.cells #[.func (.yield l) #[] #[]] 221)) (Obj.cells #[goV W.heap.size (W.heap.size+1)] 222);rwa [World.size_alloc] at this
 have HFi:Hid (CallsIn Fence.wide (n - 1) Tryz.prog 70 #[.pointer (some ⟨t,0,none⟩),.string (S [])] w2 fun e w'=>e= .returned (.pointer (some ⟨a [],0,none⟩))∧Below w2.heap.size w2 w'):=q6q (by
  have h:=qh1 (hT1.below hb2) t (hV1.below hb2) [] (by simp) (hS1.below hb2);rw[show qaa ([]:List UInt8)=[] from rfl,qgu hx] at h;exact callsIn_wide.2 h)
 have HGo:Hid (∀w3,Below w2.heap.size w2 w3→CallsIn Fence.wide (n - 1) Tryz.prog 112 #[.pointer (some ⟨a [],0,none⟩),.string (S []),.pointer (some ⟨W.heap.size,0,none⟩),.pointer (some ⟨W.heap.size+1,0,none⟩)] w3 fun e w4=>
  (e= .returned (.bool true)∧∃X',J L X' w4)∨∃ch,e= .panicked ch∧Dz ch w4):=q6q fun w3 hb3=>by
  have hb:Below W.heap.size W w3:=hb2.trans (hb3.mono hb2.size);refine(q4g hT hF hN X0 hX0 l L J Dz hrely hYn hJX W.heap.size (W.heap.size+1) 13 (n - 1) [] x L [] [] (qd1 X W w3) w3 (by simp) hx hL (by simp) (hrely _ _ _ _ hJ hb) (fun k hk=> .inl (hX k hk)) (fun k hk=>(hb.block k (hJX _ _ _ hJ k (hX k hk))).trans (hW k hk))
   (.inr ⟨Nat.le_refl _,by have:=hb3.size;omega⟩) (.inr ⟨by omega,by have:=hb3.size;omega⟩) ?_ ?_).mono ?_
  ·rw[cell_of_row w3 _ _ _ _ _ ((hb3.block _ (by omega)).trans k3)];rfl
  ·rw[cell_of_row w3 _ _ _ _ _ ((hb3.block _ (by omega)).trans k4)];rfl
  ·rintro e w4 (⟨he,X',hj,_⟩|hz)
   ·exact .inl ⟨he,X',by simpa using hj⟩
   ·exact .inr hz
 have e4:w2.cell? ⟨W.heap.size+1,0,none⟩=some (.func (.func 112) #[] #[.pointer (some ⟨W.heap.size,0,none⟩),.pointer (some ⟨W.heap.size+1,0,none⟩)]):=by rw[cell_of_row w2 _ _ _ _ _ k4];rfl
 have HE4:=q6q (fun w3 (hb3:Below w2.heap.size w2 w3)=>(hb3.cell (p:=⟨W.heap.size+1,0,none⟩) (by simp;omega)).trans e4);have g1:w2.cell? ⟨b1,0,none⟩=some (.pointer (some ⟨t,0,none⟩)):=(hb2.cell (q6r W _ d1)).trans d1;have g2:w2.cell? ⟨b2,0,none⟩=some (.string (S [])):=(hb2.cell (q6r W _ d2)).trans d2;unfold goV at hw2;clear hY hYn hT1 hS1 hV1 k3 k4 hb2 hJX hrely e4;refine callsIn_of_wp Tryz.func111 rfl trivial ?_ rfl;simp only[Tryz.ntmps111,List.size_toArray,List.length_cons,List.length_nil,Nat.reduceAdd,Nat.reduceSub,Array.replicate_succ,Array.replicate_zero,List.push_toArray,List.append_toArray,List.nil_append,List.cons_append];gi_wp2_with (first
  |((first|refine⟨trivial,fun h=>(by cases h),?_⟩|refine⟨fun h=>(by cases h),?_⟩|skip);gi_at_call 70;refine(HFi.out).mono ?_;rintro e w3 ⟨rfl,hb3⟩;have f4:=HE4.out w3 hb3)
  |((first|refine⟨trivial,fun h=>(by cases h),?_⟩|refine⟨fun h=>(by cases h),?_⟩|skip);gi_at_call 112;refine(HGo.out w3 hb3).mono ?_;rintro e w4 (⟨rfl,X',hj⟩|⟨ch,rfl,hz⟩);rotate_left;exact⟨rfl,.inr ⟨ch,rfl,hz⟩⟩))
 go_end0
 exact .inl ⟨⟨_,rfl⟩,X',hj⟩
def q1b(b1 b2:Nat):Value:=.func (.func 111) #[] #[.pointer (some ⟨b1,0,none⟩),.pointer (some ⟨b2,0,none⟩)]
theorem qkh(t:Nat)(p:List UInt8)(w:World):
 Calls Tryz.prog 73 #[.pointer (some ⟨t,0,none⟩),.string (S p)] w fun e w'=>e= .returned (q1b w.heap.size (w.heap.size+1))∧Below w.heap.size w w'∧w'.heap.size=w.heap.size+2∧
  w'.cell? ⟨w.heap.size,0,none⟩=some (.pointer (some ⟨t,0,none⟩))∧w'.cell? ⟨w.heap.size+1,0,none⟩=some (.string (S p)):=by
 go_enter Tryz.func73,Tryz.ntmps73;go_wp2;go_ret;refine⟨rfl,((Below.refl _ _).alloc (Nat.le_refl _) _).alloc (by simp) _,by simp,?_,?_⟩
 ·rw[cell_of_row _ _ _ _ _ _ ((Below.heap_alloc (w.alloc _) _ w.heap.size (by simp)).trans (Go.heap_alloc_new w _))];rfl
 ·have:=Go.heap_alloc_new (w.alloc (Obj.cells #[.pointer (some ⟨t,0,none⟩)] 86)) (Obj.cells #[.string (S p)] 9)
  rw[World.size_alloc] at this;rw[cell_of_row _ _ _ _ _ _ this];rfl
attribute [local go_sem] Oper.semAt_some
theorem Below.putObj'(h:Below B w W)(hk:B≤k)(o:Obj):Below B w (W.putObj k o):=
 ⟨h.os,h.tape,h.output,by simpa using h.size,fun i hi=>(World.putObj_heap_other (by omega)).trans (h.block i hi)⟩
theorem q46(hT:TreeAt w B N a m F)(hF:FineF F)(hN:N≤4294967290)(hS:Std w)(t:Nat)(hV:TreeV w t a)(L:List Ent)(hL:WalkL F [] L)(hl:L.length≤2000000000)(x:Nd)(hx:F []=some x):
 Calls Tryz.prog 72 #[.pointer (some ⟨t,0,none⟩)] w fun e w'=>e= .returned (.int .i64 L.length)∧Below w.heap.size w w':=by
 refine(callsIn_wide (n:=8)).1 ?_;refine callsIn_of_wp_marks Tryz.func72 rfl trivial ?_ rfl;simp only[Tryz.ntmps72,List.size_toArray,List.length_cons,List.length_nil,Nat.reduceAdd,Nat.reduceSub,Array.replicate_succ,Array.replicate_zero,List.push_toArray,List.append_toArray,List.nil_append,List.cons_append];have HWk:Hid (∀w,CallsIn Fence.wide (8 - 1) Tryz.prog 73 #[.pointer (some ⟨t,0,none⟩),.string (S [])] w _):=q6q (fun w=>callsIn_wide.2 (qkh t [] w));gi_wp2_with ((first|refine⟨trivial,fun h=>(by cases h),?_⟩|refine⟨trivial,?_⟩|refine⟨fun h=>(by cases h),?_⟩|skip);gi_at_call 73;refine(HWk.out _).mono ?_;rintro e w1 ⟨rfl,hb1,hs1,d1,d2⟩)
 have hbx:w1.heap[w.heap.size]? =some (Obj.cells #[.int .i64 0] 3):=(hb1.block _ (by simp)).trans (Go.heap_alloc_new w _);have hbw:Below w.heap.size w w1:=((Below.refl _ w).alloc (Nat.le_refl _) _).trans (hb1.mono (by simp));simp only[World.size_alloc] at hs1 d1 d2;have hX0:qtd (fun k=>k<w1.heap.size∧k≠w.heap.size) a m F:=fun p y hy=>by
  obtain⟨h1,h2⟩:=hT.lt p y hy;exact⟨⟨by omega,by omega⟩,fun hk=>⟨by have:=h2 hk;omega,by have:=h2 hk;omega⟩⟩
 have hXS:StdX (fun k=>k<w1.heap.size∧k≠w.heap.size):=by
  obtain⟨_,hm⟩:=hS.maxlen;have:=q6r w _ hm;exact⟨by simp at this;omega,by simp at this;omega⟩
 have htl:t<w.heap.size:=q6r w _ hV;have hb1w:Below w.heap.size w w1:=hbw;refine qdr (xs:=L) (encs:=encE) (X0:=fun k=>k<w1.heap.size∧k≠w.heap.size) rfl (by omega) (gf:=111) (lb:=#[.pointer (some ⟨w.heap.size+1,0,none⟩),.pointer (some ⟨w.heap.size+1+1,0,none⟩)]) rfl trivial (enters_of Tryz.func111 (by kernel_rfl) rfl)
  (qkv (hT.below hbw) hF hN (hS.below hbw) t (hV.below hbw) _ hX0 hXS ⟨by omega,by omega⟩ (w.heap.size+1) (w.heap.size+1+1) ⟨by omega,by omega⟩ ⟨by omega,by omega⟩ d1 d2 L hL x hx _) (fun _=>rfl)
  (fun pre X W=>(W.cell? ⟨w.heap.size,0,none⟩=some (.int .i64 pre.length)∧W.frozen? ⟨w.heap.size,0,none⟩=false)∧¬X w.heap.size∧(∀k,X k→k<W.heap.size)∧Below w.heap.size w W∧pre.length≤2000000000)
  (fun pre X W h=>h.2.2.1) ?rely ?put ?start
  (fun e a' _ _=>a'={tmps:=#[.pointer (some ⟨t,0,none⟩),undef,.pointer (some ⟨w.heap.size,0,none⟩),.pointer (some ⟨t,0,none⟩),q1b (w.heap.size+1) (w.heap.size+1+1),.string (S e.path),e.agg,undef,undef,undef],defers:=[]})
  (fun _ _ _ _ _ _ h _ _=>h) ?assign ?body ?done
 case rely=>
  rintro pre X W W' ⟨⟨h1,h1f⟩,h2,h3,h4,h5⟩ hb;have hlt:w.heap.size<W.heap.size:=q6r W _ h1;refine⟨⟨(hb.cell (p:=⟨w.heap.size,0,none⟩) hlt).trans h1,by unfold World.frozen? at h1f ⊢;rw[hb.block w.heap.size hlt];exact h1f⟩,fun h=>h.elim h2 (fun h=>by omega),fun k hk=>hk.elim (fun h=>Nat.lt_of_lt_of_le (h3 k h) hb.size) (fun h=>h.2),h4.trans (hb.mono (by omega)),h5⟩
 case put=>
  rintro pre X W k o' ⟨⟨h1,h1f⟩,h2,h3,h4,h5⟩ hk hle;have hne:w.heap.size≠k:=fun e=>h2 (e▸hk)
  exact⟨⟨qap h1 (World.putObj_heap_other hne),by unfold World.frozen? at h1f ⊢;rw[World.putObj_heap_other hne];exact h1f⟩,h2,fun q hq=>by simpa using h3 q hq,Below.putObj' h4 (by omega) _,h5⟩
 case start=>exact⟨⟨by rw[cell_of_row w1 _ _ _ _ _ hbx];rfl,Lib.frozen_of_heap hbx 0⟩,fun h=>h.2 rfl,fun k h=>h.1,hbw,by simp⟩
 case assign=>
  intro l pre y X W K hi hK;gi_wp2
  exact hK _ _ (StaysX.refl _ _) hi (by simp[encE])
 case body=>
  rintro l pre y rest a' X W hxs ⟨⟨h1,h1f⟩,h2,h3,h4,h5⟩ rfl;have hlen:pre.length+1≤2000000000:=by rw[hxs] at hl;simp at hl;omega
  have hwk:IntKind.i64.wrap ((pre.length:Int)+1)=(pre.length:Int)+1:=by rw[IntKind.wrap_i64];omega
  gi_wp2
  refine⟨⟨by simp,fun k hk=>Below.heap_setCell W _ _ k (fun e=>h2 (by have e2:k=w.heap.size:=e;rw[←e2];exact hk))⟩,⟨?_,?_⟩,h2,fun k hk=>by simpa using h3 k hk,h4.setCell (p:=⟨w.heap.size,0,none⟩) (Nat.le_refl _) _,by simp;omega⟩
  ·have:=World.cell?_setCell_same' W ⟨w.heap.size,0,none⟩ (.int .i64 ((pre.length:Int)+1)) (by rw[h1];rfl)
   simpa using this
  ·rw[World.frozen?_setCell];exact h1f
 case done=>
  rintro D X W hD hXD ⟨⟨h1,h1f⟩,h2,h3,h4,h5⟩ hK;gi_wp2
  have hK2:=(KeepsOthers.setCell W ⟨w.heap.size,0,none⟩ (.int .i64 L.length)).same D _ hK rfl;refine⟨by simp,.inl ⟨_,_,rfl,run_takeDeferred hK2,?_⟩⟩;have hneD:w.heap.size≠D:=fun e=>h2 (e▸hXD)
  have hce:((W.setCell ⟨w.heap.size,0,none⟩ (.int .i64 L.length)).putObj D (.deferred none)).cell? ⟨w.heap.size,0,none⟩=some (.int .i64 L.length):=
   qap (World.cell?_setCell_same' W ⟨w.heap.size,0,none⟩ (.int .i64 L.length) (by rw[h1];rfl)) (World.putObj_heap_other hneD)
  refine⟨_,(show(results Tryz.f72 _).run Tryz.prog _= .ok (.int .i64 L.length) _ from ?_),rfl,Below.putObj' (h4.setCell (p:=⟨w.heap.size,0,none⟩) (Nat.le_refl _) _) (by omega) _⟩;simp[results,Tryz.f72,go_sem,hce]
attribute [local go_sem] Oper.semAt_some
theorem qxt(hpl:p.length≤4294967280)(hT:TreeAt w0 B N a m F)(hF:FineF (qf1 F (qaa p)))(hN:N≤4294967290)(hS:Std w0)(t:Nat)(hV:TreeV w0 t a)(X0:Nat→Prop)(hX0:qtd X0 a m F)(hXS:StdX X0)(hXt:X0 t)
 (b1 b2:Nat)(hX1:X0 b1)(hX2:X0 b2)(c1:w0.cell? ⟨b1,0,none⟩=some (.pointer (some ⟨t,0,none⟩)))(c2:w0.cell? ⟨b2,0,none⟩=some (.string (S p)))(L:List Ent)(hL:WalkL (qf1 F (qaa p)) [] L)(x:Nd)(hx:F (qaa p)=some x)(hk:x.kind=1)(n:Nat):
 qul Fence.wide n Tryz.prog 111 #[.pointer (some ⟨b1,0,none⟩),.pointer (some ⟨b2,0,none⟩)] encE L X0 w0:=by
 intro l J Dz X W hrely hY hJX hX hW hJ;have d1:W.cell? ⟨b1,0,none⟩=some (.pointer (some ⟨t,0,none⟩)):=qap c1 (hW _ hX1);have d2:W.cell? ⟨b2,0,none⟩=some (.string (S p)):=qap c2 (hW _ hX2);have hT1:=hT.stayX hX0 hW;have hS1:=hS.stayX hXS hW;have hV1:TreeV W t a:=qap hV (hW _ hXt);have hYn:∀n pre x rest X W,L=pre++x::rest→J pre X W→YieldAt Fence.wide n Tryz.prog l (encE x) W fun e W'=>(e= .returned (.bool true)∧J (pre++[x]) X W'∧StaysX X W W')∨∃ch,e= .panicked ch∧Dz ch W':=fun n' pre x rest X W h1 h2=>YieldAt.wide (hY pre x rest X W h1 h2)
 obtain⟨w2,hw2⟩:∃w2,(W.alloc (Obj.cells #[.func (.yield l) #[] #[]] 221)).alloc (Obj.cells #[goV W.heap.size (W.heap.size+1)] 222)=w2:=⟨_,rfl⟩;have hb2:Below W.heap.size W w2:=by rw[←hw2];exact((Below.refl _ _).alloc (Nat.le_refl _) _).alloc (by simp) _
 have hsz:w2.heap.size=W.heap.size+2:=by rw[←hw2];simp
 have k3:w2.heap[W.heap.size]? =some (Obj.cells #[.func (.yield l) #[] #[]] 221):=by rw[←hw2];exact(Below.heap_alloc (W.alloc _) _ W.heap.size (by simp)).trans (Go.heap_alloc_new W _)
 have k4:w2.heap[W.heap.size+1]? =some (Obj.cells #[goV W.heap.size (W.heap.size+1)] 222):=by
  rw[←hw2];have:=Go.heap_alloc_new (W.alloc (Obj.cells #[.func (.yield l) #[] #[]] 221)) (Obj.cells #[goV W.heap.size (W.heap.size+1)] 222);rwa [World.size_alloc] at this
 have HFi:Hid (CallsIn Fence.wide (n - 1) Tryz.prog 70 #[.pointer (some ⟨t,0,none⟩),.string (S p)] w2 fun e w'=>e= .returned (.pointer (some ⟨a (qaa p),0,none⟩))∧Below w2.heap.size w2 w'):=q6q (by
  have h:=qh1 (hT1.below hb2) t (hV1.below hb2) p hpl (hS1.below hb2);rw[qgu hx] at h;exact callsIn_wide.2 h)
 have HGo:Hid (∀w3,Below w2.heap.size w2 w3→CallsIn Fence.wide (n - 1) Tryz.prog 112 #[.pointer (some ⟨a (qaa p),0,none⟩),.string (S []),.pointer (some ⟨W.heap.size,0,none⟩),.pointer (some ⟨W.heap.size+1,0,none⟩)] w3 fun e w4=>
  (e= .returned (.bool true)∧∃X',J L X' w4)∨∃ch,e= .panicked ch∧Dz ch w4):=q6q fun w3 hb3=>by
  have hb:Below W.heap.size W w3:=hb2.trans (hb3.mono hb2.size);have f3:w3.cell? ⟨W.heap.size,0,none⟩=some (.func (.yield l) #[] #[]):=by rw[cell_of_row w3 _ _ _ _ _ ((hb3.block _ (by omega)).trans k3)];rfl
  have f4:w3.cell? ⟨W.heap.size+1,0,none⟩=some (goV W.heap.size (W.heap.size+1)):=by rw[cell_of_row w3 _ _ _ _ _ ((hb3.block _ (by omega)).trans k4)];rfl
  have hg:=q4g (hT.shift (qaa p) x hx hk) hF hN X0 (fun q y hy=>hX0 _ y hy) l L J Dz hrely hYn hJX W.heap.size (W.heap.size+1) 13 (n - 1) [] x L [] [] (qd1 X W w3) w3 (by simp) (show qf1 F (qaa p) []=some x by unfold qf1;rw[List.append_nil];exact hx) hL (by simp) (hrely _ _ _ _ hJ hb) (fun k hk=> .inl (hX k hk)) (fun k hk=>(hb.block k (hJX _ _ _ hJ k (hX k hk))).trans (hW k hk))
   (.inr ⟨Nat.le_refl _,by have:=hb3.size;omega⟩) (.inr ⟨by omega,by have:=hb3.size;omega⟩) f3 f4
  simp only[List.append_nil] at hg;refine hg.mono ?_;rintro e w4 (⟨he,X',hj,_⟩|hz)
  ·exact .inl ⟨he,X',by simpa using hj⟩
  ·exact .inr hz
 have e4:w2.cell? ⟨W.heap.size+1,0,none⟩=some (.func (.func 112) #[] #[.pointer (some ⟨W.heap.size,0,none⟩),.pointer (some ⟨W.heap.size+1,0,none⟩)]):=by rw[cell_of_row w2 _ _ _ _ _ k4];rfl
 have HE4:=q6q (fun w3 (hb3:Below w2.heap.size w2 w3)=>(hb3.cell (p:=⟨W.heap.size+1,0,none⟩) (by simp;omega)).trans e4);have g1:w2.cell? ⟨b1,0,none⟩=some (.pointer (some ⟨t,0,none⟩)):=(hb2.cell (q6r W _ d1)).trans d1;have g2:w2.cell? ⟨b2,0,none⟩=some (.string (S p)):=(hb2.cell (q6r W _ d2)).trans d2;unfold goV at hw2;clear hY hYn hT1 hS1 hV1 k3 k4 hb2 hJX hrely e4;refine callsIn_of_wp Tryz.func111 rfl trivial ?_ rfl;simp only[Tryz.ntmps111,List.size_toArray,List.length_cons,List.length_nil,Nat.reduceAdd,Nat.reduceSub,Array.replicate_succ,Array.replicate_zero,List.push_toArray,List.append_toArray,List.nil_append,List.cons_append];gi_wp2_with (first
  |((first|refine⟨trivial,fun h=>(by cases h),?_⟩|refine⟨fun h=>(by cases h),?_⟩|skip);gi_at_call 70;refine(HFi.out).mono ?_;rintro e w3 ⟨rfl,hb3⟩;have f4:=HE4.out w3 hb3)
  |((first|refine⟨trivial,fun h=>(by cases h),?_⟩|refine⟨fun h=>(by cases h),?_⟩|skip);gi_at_call 112;refine(HGo.out w3 hb3).mono ?_;rintro e w4 (⟨rfl,X',hj⟩|⟨ch,rfl,hz⟩);rotate_left;exact⟨rfl,.inr ⟨ch,rfl,hz⟩⟩))
 go_end0
 exact .inl ⟨⟨_,rfl⟩,X',hj⟩
end Go.Proofs.YtikdblkfjchjbaaGreatDoor
