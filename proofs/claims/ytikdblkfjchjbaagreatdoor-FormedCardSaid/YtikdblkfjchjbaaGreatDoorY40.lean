import Derived.Test.YtikdblkfjchjbaaGreatDoorY25
import Derived.Test.YtikdblkfjchjbaaGreatDoorY39
set_option linter.unusedVariables false
set_option linter.unusedSimpArgs false
set_option maxHeartbeats 16000000
set_option maxRecDepth 100000
namespace Go.Proofs.YtikdblkfjchjbaaGreatDoor
variable{k kd:Int}{wk x op s y:List UInt8}{l c:List Ent}{f:EnvF}{st':List StageG}{α β:Type}{lo hi:Nat}{w:List WordG}{r:Except Int (List Ent)}{W:List (List UInt8)}
abbrev StX:=List Ent×EnvF×List UInt8
def noX:StX:=([],fun _=>none,[])
def srcX(c:List Ent)(M:Nat→Option StX)(k:Int):List Ent:=if 0≤k then ((M k.toNat).getD noX).1 else c
def runX(c:List Ent)(M:Nat→Option StX):List StepG→StX→Except (Int×Nat) StX
 |[],s=> .ok s
 |x::r,s=>match qiz (srcX c M x.stage) (qde x.op) (qcp s.2.1 x.words) s.1 s.2.1 s.2.2 with
  |.error k=> .error (k,x.at_)
  |.ok s2=>runX c M r s2
def begX(M:Nat→Option StX)(b:Int):StX:=if 0≤b then (M b.toNat).getD noX else noX
def qcu(c:List Ent)(st:List StageG):List Nat→(Nat→Option StX)→Except (Int×Nat) (Nat→Option StX)
 |[],M=> .ok M
 |k::r,M=>match st[k]? with
  |none=> .ok M
  |some x=>match runX c M x.steps (begX M x.base) with
   |.error e=> .error e
   |.ok s=>qcu c st r (fun j=>if j=k then some s else M j)
noncomputable def qim(c:List Ent)(st:List StageG):Except (Int×Nat) StX:=match qcu c st (qc1 st) (fun _=>none) with
 |.error e=> .error e
 |.ok M=> .ok ((M (st.length - 1)).getD noX)
def errX:Except (Int×Nat) α→Except Int α
 |.error e=> .error e.1
 |.ok a=> .ok a
def setA(f:EnvF)(l:List Atm):List UInt8:=l.flatMap fun a=>match a with
 |.ch c=>[c]
 |.var x _=>(f x).getD []
theorem qys(f:EnvF)(acc:List PieceG)(a:Atm):setE f (qh9 acc a)=setE f acc++setA f [a]:=by
 cases a with
 |var x p=>simp[qh9,setE,setA]
 |ch c=>
  show setE f (addP acc c)=_
  rcases List.eq_nil_or_concat acc with rfl|⟨init,p,rfl⟩
  ·rw[qks];simp[setE,setA]
  ·rw[List.concat_eq_append]
   cases hp:p.var with
   |true=>rw[qgv _ _ _ hp];simp[setE,setA,List.flatMap_append]
   |false=>rw[qgw _ _ _ hp];simp[setE,setA,List.flatMap_append,hp]
theorem qrw(f:EnvF)(l:List Atm):∀acc,setE f (qar l acc)=setE f acc++setA f l:=by
 induction l with
 |nil=>intro acc;simp[qar,setA]
 |cons a r ih=>
  intro acc;show setE f (qar r (qh9 acc a))=_
  rw[ih,qys];simp[setA]
theorem qn4(f:EnvF)(w:WordG):setE f w.pl=setA f w.l:=by
 unfold WordG.pl;rw[qrw];simp[setE]
theorem q11(f:EnvF)(l:List Atm):setA f (l.map eraA)=setA f l:=by
 unfold setA;rw[List.flatMap_map];congr 1
 funext a
 cases a <;> rfl
theorem quo(f:EnvF)(ws:List WordG):qcp f (ws.map eraW)=qcp f ws:=by
 unfold qcp;rw[List.map_map];apply List.map_congr_left;intro w _;show setE f (eraW w).pl=setE f w.pl
 rw[qn4,qn4];exact q11 f w.l
def q04(f:EnvF):Prop:=∀k t,f k=some t→k.length≤180∧t.length≤180
theorem q10(hf:q04 f)(l:List Atm):(setA f l).length≤60*(qbs l).length:=by
 induction l with
 |nil=>simp[setA]
 |cons a r ih=>
  have e1:setA f (a::r)=setA f [a]++setA f r:=by simp[setA]
  have e2:qbs (a::r)=qc9 a++qbs r:=by simp[qbs]
  rw[e1,e2,List.length_append,List.length_append];have:(setA f [a]).length≤60*(qc9 a).length:=by
   cases a with
   |ch c=>
    have:1≤(qcc c).length:=by unfold qcc;split <;> simp
    simp[setA,qc9];omega
   |var x p=>
    simp only[setA,List.flatMap_cons,List.flatMap_nil,List.append_nil,qc9,List.length_append,List.length_cons,List.length_nil];cases hx:f x with
    |none=>simp
    |some t=>have:=(hf x t hx).2;simp only[Option.getD_some];omega
  omega
theorem qod(l:List Atm):∀(acc:List PieceG) (n:Nat),(∀p∈acc,p.text.length≤n)→(qar l acc).length≤acc.length+(qbs l).length∧∀p∈qar l acc,p.text.length≤n+(qbs l).length:=by
 induction l with
 |nil=>intro acc n h;simp[qar,qbs];exact h
 |cons a r ih=>
  intro acc n h;have e2:qbs (a::r)=qc9 a++qbs r:=by simp[qbs]
  have ht:1≤(qc9 a).length:=by
   cases a with
   |ch c=>show 1≤(qcc c).length;unfold qcc;split <;> simp
   |var x p=>simp[qc9]
  have h1:(qh9 acc a).length≤acc.length+1:=by
   cases a with
   |ch c=>exact qui acc c
   |var x p=>simp[qh9]
  have h2:∀p∈qh9 acc a,p.text.length≤n+(qc9 a).length:=by
   intro p hp;cases a with
   |var x q=>
    rcases List.mem_append.1 (show p∈acc++[⟨x,true,q⟩] from hp) with hp|hp
    ·have:=h p hp;omega
    ·rw[List.mem_singleton.1 hp];simp[qc9];omega
   |ch c=>
    have hp:p∈addP acc c:=hp;rcases List.eq_nil_or_concat acc with rfl|⟨init,z,rfl⟩
    ·rw[qks] at hp;rw[List.mem_singleton.1 hp];simp;omega
    ·rw[List.concat_eq_append] at hp h
     cases hz:z.var with
     |true=>
      rw[qgv _ _ _ hz] at hp;rcases List.mem_append.1 hp with hp|hp
      ·have:=h p hp;omega
      ·rw[List.mem_singleton.1 hp];simp;omega
     |false=>
      rw[qgw _ _ _ hz] at hp;rcases List.mem_append.1 hp with hp|hp
      ·have:=h p (List.mem_append_left _ hp);omega
      ·have:=h z (by simp)
       rw[List.mem_singleton.1 hp];simp;omega
  obtain⟨i1,i2⟩:=ih (qh9 acc a) _ h2;refine⟨?_,fun p hp=>?_⟩
  ·show(qar r (qh9 acc a)).length≤_
   rw[e2,List.length_append];omega
  ·have:=i2 p hp
   rw[e2,List.length_append];omega
theorem qup(hf:q04 f)(w:WordG){n:Nat}(h:(qd2 w).length≤n):(setE f w.pl).length≤60*n∧w.pl.length≤n∧∀p∈w.pl,p.text.length≤n:=by
 have h1:(qbs w.l).length≤n:=by
  refine Nat.le_trans ?_ h;unfold qd2 qdw;split
  ·rename_i e;rw[e];simp
  ·exact Nat.le_refl _
 obtain⟨h2,h3⟩:=qod w.l [] 0 (fun p hp=>by cases hp);refine⟨?_,?_,fun p hp=>?_⟩
 ·rw[qn4];have:=q10 hf w.l;omega
 ·unfold WordG.pl;simp at h2;omega
 ·have:=h3 p hp;omega
theorem q3e(f:EnvF)(w:WordG)(h:w.flat=true):setE f w.pl=w.text:=by
 rw[qn4];have key:∀(l:List Atm) (acc:List UInt8),(qbe l acc).2=true→acc++setA f l=(qbe l acc).1:=by
  intro l;induction l with
  |nil=>intro acc _;simp[setA,qbe]
  |cons a r ih=>
   intro acc h;cases a with
   |ch c=>
    rw[qbe] at h ⊢;rw[←ih _ h];simp[setA]
   |var x p=>rw[qbe] at h;cases h
 have:=key w.l [] h;rw[List.nil_append] at this;exact this
theorem qok{f:α→List UInt8}{l:List α}{x:α}(h:x∈l):(f x).length≤(l.flatMap f).length:=by
 induction l with
 |nil=>cases h
 |cons y r ih=>
  rw[List.flatMap_cons,List.length_append];rcases List.mem_cons.1 h with rfl|h
  ·omega
  ·have:=ih h;omega
theorem q5e{st:List StageG}{x:StageG}{y:StepG}{w:WordG}(hx:x∈st)(hy:y∈x.steps)(hw:w∈y.words):(qd2 w).length≤(qb4 st).length:=by
 have h1:(qcy st x).length≤(qb4 st).length:=qok hx;have h2:(qej st y).length≤(x.steps.flatMap (qej st)).length:=qok hy;have h3:(32::qd2 w).length≤(qbt y.words).length:=qok (f:=fun w=>32::qd2 w) hw;have e1:(qcy st x).length=(qbd st x).length+(x.steps.flatMap (qej st)).length:=by unfold qcy;exact List.length_append
 have e2:(qej st y).length=(qbp st y).length+(qbt y.words).length+1:=by unfold qej;simp;omega
 simp only[List.length_cons] at h3;omega
theorem q14(c:List Ent)(M:Nat→Option StX):∀(l:List StepG) (s:StX),errX (runX c M (l.map eraP) s)=errX (runX c M l s):=by
 intro l;induction l with
 |nil=>intro s;rfl
 |cons x r ih=>
  intro s;rw[List.map_cons,runX,runX];show errX (match qiz (srcX c M x.stage) (qde x.op) (qcp s.2.1 (x.words.map eraW)) s.1 s.2.1 s.2.2 with|.error k=> .error (k,0)|.ok s2=>runX c M (r.map eraP) s2)=_
  rw[quo];cases qiz (srcX c M x.stage) (qde x.op) (qcp s.2.1 x.words) s.1 s.2.1 s.2.2 with
  |error k=>rfl
  |ok s2=>exact ih s2
theorem qrq(c:List Ent)(st:List StageG):∀(L:List Nat) (M:Nat→Option StX),errX (qcu c (eraF st) L M)=errX (qcu c st L M):=by
 intro L;induction L with
 |nil=>intro M;rfl
 |cons k r ih=>
  intro M;rw[qcu,qcu];have:(eraF st)[k]? =(st[k]?).map eraG:=by unfold eraF;rw[List.getElem?_map]
  rw[this];cases st[k]? with
  |none=>rfl
  |some x=>
   show errX (match runX c M (x.steps.map eraP) (begX M x.base) with|.error e=> .error e|.ok s=>qcu c (eraF st) r (fun j=>if j=k then some s else M j))=errX (match runX c M x.steps (begX M x.base) with|.error e=> .error e|.ok s=>qcu c st r (fun j=>if j=k then some s else M j))
   have h:=q14 c M x.steps (begX M x.base);cases h1:runX c M (x.steps.map eraP) (begX M x.base) with
   |error e=>
    rw[h1] at h;cases h2:runX c M x.steps (begX M x.base) with
    |error e2=>
     rw[h2] at h;simp only[errX,Except.error.injEq] at h ⊢;exact h
    |ok s2=>rw[h2] at h;cases h
   |ok s=>
    rw[h1] at h;cases h2:runX c M x.steps (begX M x.base) with
    |error e2=>rw[h2] at h;cases h
    |ok s2=>rw[h2] at h;cases h;exact ih _
theorem qxs(x:StageG)(k:Int):qdj (eraG x) k=qdj x k:=by
 unfold qdj eraG;simp only[List.any_map];rfl
theorem qmx{st:List StageG}(hl:st'.length=st.length)(hw:∀i (h:i<st.length) (h':i<st'.length) (k:Int),qdj st'[i] k=qdj st[i] k){i:Nat}(h:Reach st i):Reach st' i:=by
 induction h with
 |last hne=>
  rw[←hl];exact .last (by intro e;subst e;simp at hl;exact hne (List.length_eq_zero_iff.1 hl.symm))
 |step hi _ hk hwn ih=>exact .step (by omega) ih hk ((hw _ hi (by omega) _).trans hwn)
theorem q2l(st:List StageG):qc1 (eraF st)=qc1 st:=by
 have hl:(eraF st).length=st.length:=by unfold eraF;simp
 have hw:∀i (h:i<st.length) (h':i<(eraF st).length) (k:Int),qdj (eraF st)[i] k=qdj st[i] k:=by
  intro i h h' k;have:(eraF st)[i]=eraG st[i]:=by simp[eraF]
  rw[this,qxs]
 unfold qc1;rw[hl];apply List.filter_congr;intro i _;rw[Bool.eq_iff_iff];simp only[decide_eq_true_eq];exact⟨fun h=>qmx hl.symm (fun i h h' k=>(hw i h' h k).symm) h,fun h=>qmx hl hw h⟩
theorem qqa(c:List Ent)(st:List StageG):errX (qim c (eraF st))=errX (qim c st):=by
 unfold qim;rw[q2l];have hl:(eraF st).length=st.length:=by unfold eraF;simp
 rw[hl];have h:=qrq c st (qc1 st) (fun _=>none);cases h1:qcu c (eraF st) (qc1 st) (fun _=>none) with
 |error e=>
  rw[h1] at h;cases h2:qcu c st (qc1 st) (fun _=>none) with
  |error e2=>
   rw[h2] at h;simp only[errX,Except.error.injEq] at h ⊢;exact h
  |ok s2=>rw[h2] at h;cases h
 |ok s=>
  rw[h1] at h;cases h2:qcu c st (qc1 st) (fun _=>none) with
  |error e2=>rw[h2] at h;cases h
  |ok s2=>rw[h2] at h;cases h;rfl
theorem qwc(c:List Ent){st:List StageG}(h:eraF st'=eraF st):errX (qim c st')=errX (qim c st):=by rw[←qqa c st',h,qqa]
def StepK(x:StepG):Prop:=(x.words.length=1∧(x.op=wRM∨x.op=qc4∨x.op=qdk))∨
 (x.words.length=2∧(x.op=qfv∨x.op=wADD∨x.op=qjo∨x.op=wENV∨(x.op=qdk∧(nth x.words 1).flat=true∧qfr (nth x.words 1).text=true)))
def FileK(st:List StageG):Prop:=∀x∈st,∀y∈x.steps,StepK y
theorem q2j(w:List WordG)(k j:Nat):nth (w.drop k) j=nth w (k+j):=by
 unfold nth;rw[List.getD_eq_getElem?_getD,List.getD_eq_getElem?_getD,List.getElem?_drop]
theorem qq8(h:qbc op=some (lo,hi))(hF:op≠qcq):(op=qfv∧lo=2∧hi=3)∨((op=wADD∨op=qjo∨op=wENV)∧lo=2∧hi=2)∨((op=wRM∨op=qc4)∧lo=1∧hi=1)∨(op=qdk∧lo=1∧hi=2):=by
 unfold qbc at h;rw[if_neg hF] at h;split at h
 ·rename_i e;cases h;exact .inl ⟨e,rfl,rfl⟩
 ·split at h
  ·rename_i e;cases h;exact .inr (.inl ⟨.inl e,rfl,rfl⟩)
  ·split at h
   ·rename_i e;cases h;exact .inr (.inl ⟨.inr (.inl e),rfl,rfl⟩)
   ·split at h
    ·rename_i e;cases h;exact .inr (.inl ⟨.inr (.inr e),rfl,rfl⟩)
    ·split at h
     ·rename_i e;cases h;exact .inr (.inr (.inl ⟨.inl e,rfl,rfl⟩))
     ·split at h
      ·rename_i e;cases h;exact .inr (.inr (.inl ⟨.inr e,rfl,rfl⟩))
      ·split at h
       ·rename_i e;cases h;exact .inr (.inr (.inr ⟨e,rfl,rfl⟩))
       ·cases h
theorem qsl{st:List StageG}{l:List WordG}(h:qci st op w= .ok (k,l))(hb:qbc op=some (lo,hi))(hF:op≠qcq)(h1:¬w.length<lo+1)(h2:¬hi+1<w.length)(p:Nat):StepK ⟨op,l,k,p⟩:=by
 unfold qci at h;rcases qq8 hb hF with⟨rfl,rfl,rfl⟩|⟨ho,rfl,rfl⟩|⟨ho,rfl,rfl⟩|⟨rfl,rfl,rfl⟩
 ·rw[if_pos rfl] at h
  unfold qgy at h;split at h
  ·cases h
  ·rename_i hfl
   split at h
   ·rename_i hf
    cases h;have:w.length≠4:=fun e=>hfl (by rw[hf,e];decide)
    exact .inr ⟨by simp only[List.length_drop];omega,.inl rfl⟩
   ·rename_i hf
    have h4:w.length=4:=by
     have hf':qlv (nth w 1)=true:=by simpa using hf
     have:=Classical.not_not.1 hfl;rw[hf'] at this;simpa using this.symm
    split at h
    ·cases h
    ·split at h
     ·cases h
     ·cases h
      exact .inr ⟨by simp only[List.length_drop];omega,.inl rfl⟩
 ·have hl:l=w.drop 1:=by
   rw[if_neg (by rcases ho with rfl|rfl|rfl <;> decide),if_neg (by rcases ho with rfl|rfl|rfl <;> decide)] at h;split at h
   ·split at h
    ·cases h
    ·cases h;rfl
   ·cases h;rfl
  subst hl;exact .inr ⟨by simp only[List.length_drop];omega,by rcases ho with h|h|h;exact .inr (.inl h);exact .inr (.inr (.inl h));exact .inr (.inr (.inr (.inl h)))⟩
 ·have hl:l=w.drop 1:=by
   rw[if_neg (by rcases ho with rfl|rfl <;> decide),if_neg (by rcases ho with rfl|rfl <;> decide),if_neg (by rcases ho with rfl|rfl <;> decide)] at h;cases h;rfl
  subst hl;exact .inl ⟨by simp only[List.length_drop];omega,by rcases ho with h|h;exact .inl h;exact .inr (.inl h)⟩
 ·rw[if_neg (by decide),if_pos rfl] at h
  split at h
  ·cases h
  ·rename_i hm
   cases h;by_cases h3:w.length=3
   ·refine .inr ⟨by simp only[List.length_drop];omega,.inr (.inr (.inr (.inr ⟨rfl,?_⟩)))⟩
    show(nth (w.drop 1) 1).flat=true∧qfr (nth (w.drop 1) 1).text=true
    rw[q2j];have:=fun x=>hm ⟨h3,x⟩
    refine⟨?_,?_⟩
    ·cases hx:(nth w 2).flat with
     |true=>rfl
     |false=>exact absurd (.inl hx) this
    ·cases hx:qfr (nth w 2).text with
     |true=>rfl
     |false=>exact absurd (.inr hx) this
   ·exact .inl ⟨by simp only[List.length_drop];omega,.inr (.inr rfl)⟩
theorem FileK.push{st:List StageG}(h:FileK st)(vs:List (List UInt8)){x:StepG}(hx:StepK x):FileK (qoc st vs x):=by
 unfold qoc;rcases List.eq_nil_or_concat st with rfl|⟨init,y,rfl⟩
 ·exact h
 ·rw[List.concat_eq_append] at h ⊢
  rw[List.getLast?_concat,List.dropLast_concat];intro z hz u hu;rcases List.mem_append.1 hz with hz|hz
  ·exact h z (List.mem_append_left _ hz) u hu
  ·rw[List.mem_singleton.1 hz] at hu
   rcases List.mem_append.1 hu with hu|hu
   ·exact h y (by simp) u hu
   ·rw[List.mem_singleton.1 hu];exact hx
theorem FileK.instr{st:List StageG}(h:FileK st)(hi:qce st w= .ok st'):FileK st':=by
 unfold qce at hi;split at hi
 ·cases hi
 ·rename_i lo hh hb
  split at hi
  ·cases hi
  ·rename_i hn
   split at hi
   ·unfold qg2 at hi
    split at hi
    ·cases hi
    ·repeat' split at hi
     all_goals first
      |(cases hi;done)
      | (cases hi
         intro z hz u hu;rcases List.mem_append.1 hz with hz|hz
         ·exact h z hz u hu
         ·rw[List.mem_singleton.1 hz] at hu;cases hu)
   ·rename_i hF
    unfold qfy at hi;split at hi
    ·cases hi
    ·rename_i k l hl
     split at hi
     ·cases hi
     ·cases hi
      exact h.push _ (qsl hl hb hF (fun e=>hn (.inr (.inl e))) (fun e=>hn (.inr (.inr e))) _)
theorem q5i(s:List UInt8)(j:Nat)(st st':List StageG)(n:Nat)(h:qdh s j st n= .ok st')(hk:FileK st):FileK st':=by
 induction hm:s.length - j using Nat.strongRecOn generalizing j st n with
 |ind m ih=>
  by_cases hj:j<s.length
  ·cases hl:qbq s j [] with
   |error p=>rw[qef hj hl] at h;cases h
   |ok wn=>
    obtain⟨ws,k⟩:=wn;have hle:=(qeh _ _ _ _ _ hl).1;by_cases hws:ws=[]
    ·subst hws
     rw[qga hj hl] at h;exact ih (s.length - k) (by omega) k st n h hk rfl
    ·cases hi:qce st ws with
     |error f=>rw[qhm hj hl hws hi] at h;cases h
     |ok st2=>
      by_cases hn:24<n+1
      ·rw[qir hj hl hws hi hn] at h;cases h
      ·rw[qgp hj hl hws hi hn] at h
       exact ih (s.length - k) (by omega) k st2 (n+1) h (hk.instr hi) rfl
  ·rw[qem (by omega)] at h
   split at h
   ·cases h
   ·cases h;exact hk
theorem q2g{st:List StageG}(h:qa8 s= .ok st):FileK st:=by
 unfold qa8 at h;split at h
 ·cases h
 ·split at h
  ·cases h
  ·exact q5i s 0 [] st 0 h (fun x hx=>by cases hx)
theorem StepK.formW{x:StepG}(h:StepK x)(f:EnvF):q34 (qde x.op) (qcp f x.words)∧qbc x.op≠none∧x.op.length≤100∧x.words.length≤4:=by
 rcases h with⟨h1,ho⟩|⟨h1,ho⟩
 ·obtain⟨a,ha⟩:=List.length_eq_one_iff.1 h1
  refine⟨.inl ⟨setE f a.pl,by rw[ha];rfl,?_⟩,?_,?_,by omega⟩
  ·rcases ho with e|e|e <;> rw[e]
   ·exact .inl rfl
   ·exact .inr (.inr rfl)
   ·exact .inr (.inl rfl)
  ·rcases ho with e|e|e <;> rw[e] <;> decide
  ·rcases ho with e|e|e <;> rw[e] <;> decide
 ·obtain⟨a,b,ha⟩:∃a b,x.words=[a,b]:=by
   cases hw:x.words with
   |nil=>rw[hw] at h1;simp at h1
   |cons a r=>
    cases r with
    |nil=>rw[hw] at h1;simp at h1
    |cons b r2=>
     cases r2 with
     |nil=>exact⟨a,b,rfl⟩
     |cons d r3=>rw[hw] at h1;simp at h1
  refine⟨.inr ⟨setE f a.pl,setE f b.pl,by rw[ha];rfl,?_⟩,?_,?_,by omega⟩
  ·rcases ho with e|e|e|e|⟨e,e1,e2⟩ <;> rw[e]
   ·exact .inl rfl
   ·exact .inr (.inl rfl)
   ·exact .inr (.inr (.inr (.inl rfl)))
   ·exact .inr (.inr (.inr (.inr rfl)))
   ·refine .inr (.inr (.inl ⟨rfl,?_⟩))
    rw[ha] at e1 e2;rw[q3e f b e1];exact e2
  ·rcases ho with e|e|e|e|⟨e,_⟩ <;> rw[e] <;> decide
  ·rcases ho with e|e|e|e|⟨e,_⟩ <;> rw[e] <;> decide
theorem qku(h:wayL wk s= .error k):k≠0:=by
 rcases qfu wk s with⟨q,h1,_⟩|⟨q,h1,_⟩
 ·rw[h1] at h;cases h
 ·rw[h1] at h;cases h;decide
theorem qol{x:Ent}(h:layE l x= .error k):k≠0:=by
 unfold layE at h;repeat' split at h
 all_goals first|(cases h;done)|(cases h;decide)
theorem qgk{p:List UInt8}(h:qdy l p= .error k):k≠0:=by
 have key:∀(es:List (List UInt8)) (l:List Ent) (at_:List UInt8) (k:Int),qhh l at_ es= .error k→k≠0:=by
  intro es;induction es with
  |nil=>intro l a k h;simp[qhh] at h
  |cons e r ih=>
   intro l a k h;rw[qhh] at h;repeat' split at h
   all_goals first|(cases h;done)|(cases h;decide)|exact ih _ _ _ h
 unfold qdy at h;repeat' split at h
 all_goals first|(cases h;done)|(cases h;decide)|exact key _ _ _ _ h
theorem qs3(tp:List UInt8):∀(es l:List Ent) (k:Int),qcn l tp es= .error k→k≠0:=by
 intro es;induction es with
 |nil=>intro l k h;rw[qcn] at h;cases h
 |cons e r ih=>
  intro l k h;rw[qcn] at h;split at h
  ·exact ih _ _ h
  ·rename_i h2;cases h;exact qol h2
theorem qw7(h:qcv c l wk x y= .error k):k≠0:=by
 unfold qcv at h;split at h
 ·rename_i h2;cases h;exact qku h2
 ·split at h
  ·rename_i h2;cases h;exact qku h2
  ·split at h
   ·cases h;decide
   ·split at h
    ·unfold ql3 at h
     split at h
     ·rename_i h2;cases h;exact qgk h2
     ·exact qs3 _ _ _ _ h
    ·unfold qkp at h
     split at h
     ·cases h;decide
     ·split at h
      ·rename_i h2;cases h;exact qgk h2
      ·split at h
       ·exact qol h
       ·cases h;decide
theorem qxk(tp:List UInt8):∀(es l:List Ent) (k:Int),qjn l tp es= .error k→k≠0:=by
 intro es;induction es with
 |nil=>intro l k h;rw[qjn] at h;cases h
 |cons e r ih=>
  intro l k h;rw[qjn] at h;split at h
  ·split at h
   ·rename_i h2;cases h;exact qgk h2
   ·split at h
    ·rename_i h2;cases h;exact qol h2
    ·exact ih _ _ h
  ·cases h;decide
theorem q0z(h:qjl c l wk x y=some (.error k)):k≠0:=by
 unfold qjl at h;split at h
 ·rename_i h2;cases h;exact qku h2
 ·split at h
  ·rename_i h2;cases h;exact qku h2
  ·split at h
   ·cases h;decide
   ·split at h
    ·split at h
     ·cases h;decide
     ·split at h
      ·cases h
      ·cases h;decide
      ·split at h
       ·rename_i h2;cases h;exact qgk h2
       ·injection h with h;exact qxk _ _ _ _ h
    ·cases h;decide
theorem qgl(h:lenF f l wk= .error k):k≠0:=by
 unfold lenF at h;split at h
 ·cases h
 ·cases h;decide
theorem qgd{g:List Ent→Except Int β}(h:qep r g= .error k)(h1:∀k,r= .error k→k≠0)(h2:∀l k,g l= .error k→k≠0):k≠0:=by
 cases r with
 |error e=>cases h;exact h1 _ rfl
 |ok l=>exact h2 l k h
theorem qmd{g:List UInt8→Except Int β}(h:qgc (wayL wk x) g= .error k)(h2:∀p k,g p= .error k→k≠0):k≠0:=by
 cases hr:wayL wk x with
 |error e=>rw[hr] at h;cases h;exact qku hr
 |ok p=>rw[hr] at h;exact h2 p k h
theorem q1q(hF:q34 kd W)(h:qiz c kd W l f wk= .error k):k≠0:=by
 unfold qiz at h;split at h
 ·cases h;decide
 ·rcases hF with⟨x,rfl,hk⟩|⟨x,y,rfl,hk⟩
  ·unfold qu6 at h
   refine qmd h fun p k h=>?_
   split at h
   ·repeat' split at h
    all_goals first|(cases h;decide)|exact qgl h
   ·refine qgd h (fun k h=>qgk h) fun l2 k h=>?_
    split at h <;> exact qgl h
  ·unfold qu6 at h
   simp only at h;split at h
   ·exact qgd h (fun k h=>qw7 h) fun l2 k h=>qgl h
   ·split at h
    ·split at h
     ·cases h
     ·rename_i r hr
      refine qgd h (fun k h=>q0z (by rw[hr,h])) fun l2 k h=>qgl h
    ·split at h
     ·refine qmd h fun p k h=>qgd h (fun k h=>qgk h) fun l2 k h=>?_
      split at h
      ·cases h;decide
      ·exact qgl h
     ·split at h
      ·split at h
       ·cases h;decide
       ·refine qmd h fun p k h=>?_
        split at h
        ·cases h;decide
        ·exact qgd h (fun k h=>qgk h) fun l2 k h=>qgd h (fun k h=>qol h) fun l3 k h=>qgl h
      ·exact qgl h
def SmX(s:StX):Prop:=s.1.length≤40∧q04 s.2.1
theorem qio{s:StX}(h:lenF f l wk= .ok s)(hf:q04 f):SmX s:=by
 unfold lenF at h;split at h
 ·cases h;exact⟨by assumption,hf⟩
 ·cases h
theorem qh4{g:List Ent→Except Int StX}{s:StX}(h:qep r g= .ok s)(h2:∀l,g l= .ok s→SmX s):SmX s:=by
 cases r with
 |error e=>cases h
 |ok l=>exact h2 l h
theorem qo0{r:Except Int (List UInt8)}{g:List UInt8→Except Int StX}{s:StX}(h:qgc r g= .ok s)(h2:∀l,g l= .ok s→SmX s):SmX s:=by
 cases r with
 |error e=>cases h
 |ok l=>exact h2 l h
theorem qu5{s:StX}(hF:q34 kd W)(h:qiz c kd W l f wk= .ok s)(hl:l.length≤40)(hf:q04 f):SmX s:=by
 unfold qiz at h;split at h
 ·cases h
 ·rename_i hno
  rcases hF with⟨x,rfl,hk⟩|⟨x,y,rfl,hk⟩
  ·unfold qu6 at h
   refine qo0 h fun p h=>?_
   split at h
   ·repeat' split at h
    all_goals first|(cases h;done)|exact qio h hf
   ·refine qh4 h fun l2 h=>?_
    split at h <;> exact qio h hf
  ·have hx:x.length≤180:=Nat.le_of_not_lt fun e=>hno ⟨x,by simp,e⟩
   have hy:y.length≤180:=Nat.le_of_not_lt fun e=>hno ⟨y,by simp,e⟩
   unfold qu6 at h;simp only at h;split at h
   ·exact qh4 h fun l2 h=>qio h hf
   ·split at h
    ·split at h
     ·cases h;exact⟨hl,hf⟩
     ·exact qh4 h fun l2 h=>qio h hf
    ·split at h
     ·refine qo0 h fun p h=>qh4 h fun l2 h=>?_
      split at h
      ·cases h
      ·exact qio h hf
     ·split at h
      ·split at h
       ·cases h
       ·refine qo0 h fun p h=>?_
        split at h
        ·cases h
        ·exact qh4 h fun l2 h=>qh4 h fun l3 h=>qio h hf
      ·refine qio h fun k t ht=>?_
       unfold updE at ht;split at ht
       ·rename_i e;cases ht;subst e;exact⟨hx,hy⟩
       ·exact hf k t ht
theorem qzh:SmX noX:=⟨by simp[noX],fun k t h=>by simp[noX] at h⟩
end Go.Proofs.YtikdblkfjchjbaaGreatDoor
