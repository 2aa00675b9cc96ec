import Derived.RangeFuncNested
set_option linter.unusedVariables false
set_option linter.unusedSimpArgs false
set_option maxHeartbeats 16000000
set_option maxRecDepth 100000
namespace Go.Proofs.YtikdblkfjchjbaaGreatDoor
open Go Go.RowKit
variable{α:Type}{assign body c x y:Code}{w:World}{g:Operand}{ps:Array Tmp}{f:FuncId}{R:Ending→World→Prop}{Q:Exit→Act→World→Prop}{a:Act}{gf:Nat}{lb:Array Value}{xs:List α}{X0:Nat→Prop}
variable {F:Fence} {n:Nat} {P:Program}
def qd1(X:Nat→Prop)(W W':World):Nat→Prop:=fun k=>X k∨(W.heap.size≤k∧k<W'.heap.size)
structure StaysX(X:Nat→Prop)(W W':World):Prop where
 size:W.heap.size≤W'.heap.size
 same:∀k,X k→W'.heap[k]? =W.heap[k]?
theorem StaysX.refl(X:Nat→Prop)(W:World):StaysX X W W:=⟨Nat.le_refl _,fun _ _=>rfl⟩
theorem StaysX.trans{X:Nat→Prop}{A B C:World}(h:StaysX X A B)(k:StaysX X B C):StaysX X A C:=⟨Nat.le_trans h.size k.size,fun i hi=>(k.same i hi).trans (h.same i hi)⟩
def qul(F:Fence)(n:Nat)(P:Program)(g:Nat)(lb:Array Value)(encs:α→Array Value)(xs:List α)(X0:Nat→Prop)(W0:World):Prop:=
 ∀(l:Nat) (J:List α→(Nat→Prop)→World→Prop) (Dz:List PanicEntry→World→Prop) (X:Nat→Prop) (W:World),
  (∀pre X W W',J pre X W→Below W.heap.size W W'→J pre (qd1 X W W') W')→
  (∀pre x rest X W,xs=pre++x::rest→J pre X W→YieldAt F (n - 1) P l (encs x) W fun e W'=>(e= .returned (.bool true)∧J (pre++[x]) X W'∧StaysX X W W')∨∃ch,e= .panicked ch∧Dz ch W')→
  (∀pre X W,J pre X W→∀k,X k→k<W.heap.size)→
  (∀k,X0 k→X k)→(∀k,X0 k→W.heap[k]? =W0.heap[k]?)→J [] X W→
  CallsIn F n P g (#[.func (.yield l) #[] #[]]++lb) W fun e W'=>((∃v,e= .returned v)∧∃X',J xs X' W')∨∃ch,e= .panicked ch∧Dz ch W'
def qvb(P:Program)(l:Nat)(R:Ending→World→Prop):Exit→Act→World→Prop
 |.panic ch,a,w=>a.defers=[]∧R (.panicked ch) w
 |e,a,w=>roundPost P l R e a w
theorem qkd{l:Nat}{tmps:Array Value}(hF:F.fn f)(hfn:(∃fn,P.funcs[f]? =some fn)∨∀ch w,¬R (.panicked ch) w)
 (h:assign.wpIn (F.inRound l) n P (Exit.then (fun a₁ w₁=>∃w₂,(Instr.beginRound l).run P w₁= .ok () w₂∧body.wpIn (F.inRound l) n P (qvb P l R) a₁ w₂) (fun _ _ _=>False))
   {tmps:=tmps,defers:=[]} w):RoundIn F n P l f tmps assign body w R:=by
 refine⟨hF,fun c cs hr=>?_⟩;let b:Frame:={(default:Frame) with fn:=f,kind:=.normal,roundOf:=some l}
 have hb0:Frame.round l f tmps assign body .normal=b.atR {tmps:=tmps,defers:=[]} [.code assign,.beginRound,.code body]:=by
  simp[Frame.round,Frame.atR,b]
 have hr':(F.inRound l).room ((c::cs).length+1+n):=hr;have hF':(F.inRound l).fn b.fn:=hF;obtain⟨e,a₁,w₁,hq,harr⟩:=h b [.beginRound,.code body] (c::cs) rfl hF' hr';rw[←hb0] at harr;cases e with
 |normal=>
  obtain⟨w₂,hbr,hbody⟩:=hq;have s1:StepsIn (Machine.fenced P (F.inRound l)) P (lone (b.atR a₁ [.beginRound,.code body]) (c::cs) w₁) (lone (b.atR a₁ [.code body]) (c::cs) w₂):=
   .one (fenced_calm (fr:=b.atR a₁ [.beginRound,.code body]) hF' hr' rfl) (stepR_beginRound rfl hbr)
  obtain⟨e₂,a₂,w₃,hq₂,harr₂⟩:=hbody b [] (c::cs) rfl hF' hr';cases e₂ with
  |normal=>
   obtain⟨v,w₄,hend,hR⟩:=hq₂;exact⟨.returned v,w₄,hR,(StepsIn.trans harr s1).trans (StepsIn.trans harr₂ (.one (fenced_calm (fr:=b.atR a₂ []) hF' hr' rfl) (stepR_round_end rfl rfl hend)))⟩
  |ret=>
   obtain⟨v,w₄,hend,hR⟩:=hq₂;obtain⟨k₁,hs⟩:=harr₂.2 rfl;exact⟨.returned v,w₄,hR,(StepsIn.trans harr s1).trans (StepsIn.trans hs (.one (fenced_calm (fr:=b.atR a₂ (.code .ret::k₁)) hF' hr' rfl) (stepR_round_ret rfl rfl hend)))⟩
  |exit id=>
   obtain⟨v,w₄,hend,hR⟩:=hq₂;obtain⟨k₁,hk,hs⟩:=harr₂.2 rfl rfl;exact⟨.returned v,w₄,hR,(StepsIn.trans harr s1).trans (StepsIn.trans hs (.one (fenced_calm (fr:=b.atR a₂ (.code (.exit id)::k₁)) hF' hr' rfl) (stepR_round_exit rfl rfl hk hend)))⟩
  |goto t=>
   obtain⟨v,w₄,hend,hR⟩:=hq₂;obtain⟨k₁,hk,hs⟩:=harr₂.2 rfl rfl;exact⟨.returned v,w₄,hR,(StepsIn.trans harr s1).trans (StepsIn.trans hs (.one (fenced_calm (fr:=b.atR a₂ (.code (.goto t)::k₁)) hF' hr' rfl) (stepR_round_goto rfl rfl hk hend)))⟩
  |panic ch=>
   obtain⟨hd,hR⟩:=hq₂;obtain⟨todo,hs⟩:=harr₂;obtain⟨fn,hfn⟩:=hfn.resolve_right (fun hn=>hn _ _ hR);have hl:({b.atR a₂ todo with mode:=.panicking ch}:Frame).leaving P w₃ (.panicked ch):=⟨rfl,hd,fn,hfn⟩;exact⟨.panicked ch,w₃,hR,(StepsIn.trans harr s1).trans (StepsIn.trans hs (.one (fenced_leaving (n:=n) (F:=F.inRound l) hF' hr' hl) (step_leave_panicked hl)))⟩
  |outgrown=>exact hq₂.elim
 |exit id=>exact hq.elim
 |goto t=>exact hq.elim
 |ret=>exact hq.elim
 |panic ch=>exact hq.elim
 |outgrown=>exact hq.elim
def qyz(I:List α→(Nat→Prop)→World→Prop)(Dz:List PanicEntry→World→Prop)(xs:List α)(X:Nat→Prop)(W:World):Exit→Act→World→Prop
 |.normal,_,W'=>StaysX X W W'∧I xs X W'
 |.panic ch,a,W'=>a.defers=[]∧StaysX X W W'∧Dz ch W'
 |_,_,_=>False
theorem qmy{fn:FuncId}(hfn:F.fn fn)(Dz:List PanicEntry→World→Prop)(hfp:(∃f,P.funcs[fn]? =some f)∨∀ch w,¬Dz ch w)
 (hro:F.round=none)(h1:1≤n)(hg:a.eval g= .func (.func gf) #[] lb)(hFg:F.fn gf)(eg:∀args w,(callFunc gf args).run P w= .ok (.enter gf args) w)
 {encs:α→Array Value}(hseq:qul F (n - 1) P gf lb encs xs X0 w)(hps:∀x,(encs x).size=ps.size)
 (I:List α→(Nat→Prop)→World→Prop)(hX:∀pre X W,I pre X W→∀k,X k→k<W.heap.size)
 (hrely:∀pre X W W',I pre X W→Below W.heap.size W W'→I pre (qd1 X W W') W')
 (hput:∀pre X W k o',I pre X W→X k→w.heap.size≤k→I pre X (W.putObj k o'))(h0:I [] X0 w)
 (Ax:α→Act→(Nat→Prop)→World→Prop)(hAx:∀x a' X W k o',Ax x a' X W→X k→w.heap.size≤k→Ax x a' X (W.putObj k o'))
 (hassign:∀(l:Nat) (pre:List α) (x:α) (X:Nat→Prop) (W:World) (K:Act→World→Prop),I pre X W→(∀a' W',StaysX X W W'→I pre X W'→Ax x a' X W'→K a' W')→
   assign.wpIn (F.inRound l) (n - 1 - 1) P (Exit.then K (fun _ _ _=>False)) {tmps:=(ps.zip (encs x)).foldl (fun t (p,v)=>t.setIfInBounds p v) a.tmps,defers:=[]} W)
 (hbody:∀(l:Nat) (pre:List α) (x:α) (rest:List α) (a':Act) (X:Nat→Prop) (W:World),xs=pre++x::rest→I pre X W→Ax x a' X W→body.wpIn (F.inRound l) (n - 1 - 1) P (qyz I Dz (pre++[x]) X W) a' W)
 (hdone:∀(D:Nat) (X:Nat→Prop) (W:World),w.heap.size≤D→X D→I xs X W→W.heap[D]? =some (.deferred (some []))→Q .normal {a with defers:={target:=.collected D,args:=#[]}::a.defers} W)
 (hdied:∀(D:Nat) (ch:List PanicEntry) (W:World),w.heap.size≤D→Dz ch W→W.heap[D]? =some (.deferred (some []))→Q (.panic ch) {a with defers:={target:=.collected D,args:=#[]}::a.defers} W):
 ∃(l:Nat) (mark:List Deferred) (w₁:World) (d:Deferred) (w₁':World) (f:FuncId) (args:Array Value) (w₂:World),
  (Instr.enterLoop fn a.tmps ps assign body F.round).run P w= .ok (l,mark) w₁∧
  (resolve a.eval (rangeCall g l) 0).run P w₁= .ok d w₁'∧
  (∀f',Target.leads P w₁' d.target d.args=some f'→F.fn f')∧
  (invoke d.target d.args).run P w₁'= .ok (.enter f args) w₂∧
  (F.depth.isSome=true→1≤n)∧
  CallsIn F (n - 1) P f args w₂ (rangePost F n P l Q {a with defers:=mark++a.defers}):=by
 rw[hro];obtain⟨rec,hrec⟩:∃rec:LoopState→Option Code→Loop,rec=fun st pe=>{state:=st,pending:=pe,fn,tmps:=a.tmps,params:=ps,assign,body,defers:=w.heap.size}:=⟨_,rfl⟩
 obtain⟨W1,hW1⟩:∃W1,(w.alloc (.deferred (some []))).alloc (.loop (rec .ready none))=W1:=⟨_,rfl⟩;have hL1:W1.heap[w.heap.size+1]? =some (.loop (rec .ready none)):=by
  rw[←hW1];have:=World.alloc_heap_new (w.alloc (.deferred (some []))) (.loop (rec .ready none));rwa [World.size_alloc] at this
 have hK1:W1.heap[w.heap.size]? =some (.deferred (some [])):=by
  rw[←hW1];exact(Below.heap_alloc _ _ _ (by simp)).trans (World.alloc_heap_new w _)
 have hsz:W1.heap.size=w.heap.size+2:=by rw[←hW1];simp
 have hb1:Below w.heap.size w W1:=by rw[←hW1];exact((Below.refl _ w).alloc (Nat.le_refl _) _).alloc (by simp) _
 have hI1:I [] (qd1 X0 w W1) W1:=hrely _ _ _ _ h0 hb1;refine⟨w.heap.size+1,[{target:=.collected w.heap.size,args:=#[]}],W1,{target:=.fn (.func gf) lb,args:=#[.func (.yield (w.heap.size+1)) #[] #[]]},W1,gf,
  #[.func (.yield (w.heap.size+1)) #[] #[]]++lb,W1,?_,?_,?_,?_,fun _=>h1,?_⟩
 ·rw[←hW1,hrec];exact run_enterLoop_outer _ _ _ _ _
 ·simp only[resolve,hg]
  simp[go_sem]
 ·intro f' hf';simp[Target.leads] at hf';subst hf';exact hFg
 ·simp[invoke,go_sem,eg]
 ·
  refine(hseq (w.heap.size+1)
   (fun pre X W=>∃Y:Nat→Prop,I pre Y W∧(∀k,Y k↔X k∨k=w.heap.size∨k=w.heap.size+1)∧(¬X w.heap.size∧¬X (w.heap.size+1))∧W.heap[w.heap.size+1]? =some (.loop (rec .ready none))∧W.heap[w.heap.size]? =some (.deferred (some [])))
   (fun ch W=>Dz ch W∧W.heap[w.heap.size]? =some (.deferred (some []))) X0 W1 ?_ ?_ ?_ (fun _ h=>h) (fun k hk=>hb1.block k ?_) ?_).mono ?_
  ·rintro pre X W W' ⟨Y,hi,hY,hn,hl,hk⟩ hb
   have h2:w.heap.size+1<W.heap.size:=(Array.getElem?_eq_some_iff.1 hl).1;refine⟨_,hrely _ _ _ _ hi hb,fun k=>?_,⟨?_,?_⟩,(hb.block _ h2).trans hl,(hb.block _ (by omega)).trans hk⟩
   ·unfold qd1;rw[hY k]
    constructor
    ·rintro((h|h)|h)
     ·exact .inl (.inl h)
     ·exact .inr h
     ·exact .inl (.inr h)
    ·rintro((h|h)|h)
     ·exact .inl (.inl h)
     ·exact .inr h
     ·exact .inl (.inr h)
   ·rintro(h|h)
    ·exact hn.1 h
    ·omega
   ·rintro(h|h)
    ·exact hn.2 h
    ·omega
  ·
   rintro pre x rest X W hxs ⟨Y,hi,hY,hn,hl,hk⟩;have hlt:w.heap.size+1<W.heap.size:=(Array.getElem?_eq_some_iff.1 hl).1;have hYl:Y (w.heap.size+1):=(hY _).2 (.inr (.inr rfl));have hYD:Y w.heap.size:=(hY _).2 (.inr (.inl rfl));have hy:=run_yield (P:=P) (args:=encs x) hl (by rw[hrec];exact hps x);rw[hrec] at hy;refine⟨fn,_,assign,body,hy,qkd hfn (hfp.imp id fun hn ch w hR=>by rcases hR with⟨h,_⟩|⟨_,h,h2,_⟩;cases h;exact hn _ _ h2) (hassign _ pre x Y W _ hi (fun a' W2 hl2 hi2 ha2=>⟨_,run_beginRound ((hl2.same _ hYl).trans hl) (by rw[hrec]),?_⟩))⟩;have hlt2:w.heap.size+1<W2.heap.size:=Nat.lt_of_lt_of_le hlt hl2.size
   obtain⟨Wb,hWb⟩:∃Wb,W2.putObj (w.heap.size+1) (.loop {rec .ready none with state:=.busy})=Wb:=⟨_,rfl⟩;have hlb:Wb.heap[w.heap.size+1]? =some (.loop {rec .ready none with state:=.busy}):=by rw[←hWb];exact World.putObj_heap_same hlt2
   have hkb:Wb.heap[w.heap.size]? =some (.deferred (some [])):=by rw[←hWb];exact(World.putObj_heap_other (by omega)).trans ((hl2.same _ hYD).trans hk)
   rw[hWb];refine wpIn_mono (hbody _ pre x rest a' Y Wb hxs (by rw[←hWb];exact hput _ _ _ _ _ hi2 hYl (by omega)) (by rw[←hWb];exact hAx _ _ _ _ _ _ ha2 hYl (by omega))) ?_;rintro e a3 W3 hp;cases e with
   |normal=>
    obtain⟨hv3,hi3⟩:=hp;have hl3:W3.heap[w.heap.size+1]? =some (.loop {rec .ready none with state:=.busy}):=(hv3.same _ hYl).trans hlb;have hr:=run_endRound (P:=P) none hl3;rw[hrec] at hr hl3;have hlt3:=(Array.getElem?_eq_some_iff.1 hl3).1;refine⟨_,_,hr,.inl ⟨rfl,⟨Y,hput _ _ _ _ _ hi3 hYl (by omega),hY,hn,?_,?_⟩,?_,?_⟩⟩
    ·rw[hrec];exact World.putObj_heap_same hlt3
    ·exact(World.putObj_heap_other (by omega)).trans ((hv3.same _ hYD).trans hkb)
    ·have e1:W2.heap.size=Wb.heap.size:=by rw[←hWb];simp
     have:=hv3.size;have:=hl2.size;simp;omega
    ·intro k hkX
     have hkY:Y k:=(hY k).2 (.inl hkX);have hne:k≠w.heap.size+1:=fun e=>hn.2 (e▸hkX)
     rw[World.putObj_heap_other hne,hv3.same k hkY,←hWb,World.putObj_heap_other hne,hl2.same k hkY]
   |ret=>exact hp.elim
   |exit id=>exact hp.elim
   |goto t=>exact hp.elim
   |panic ch=>
    obtain⟨hd3,hv3,hz3⟩:=hp;exact⟨hd3,.inr ⟨ch,rfl,hz3,(hv3.same _ hYD).trans hkb⟩⟩
   |outgrown=>exact hp.elim
  ·rintro pre X W ⟨Y,hi,hY,_⟩ k hk
   exact hX _ _ _ hi k ((hY k).2 (.inl hk))
  ·exact hX _ _ _ h0 k hk
  ·refine⟨_,hI1,fun k=>?_,⟨fun h=>?_,fun h=>?_⟩,hL1,hK1⟩
   ·unfold qd1
    rw[hsz];constructor
    ·rintro(h|h)
     ·exact .inl h
     ·exact .inr (by omega)
    ·rintro(h|h)
     ·exact .inl h
     ·exact .inr (by omega)
   ·have:=hX _ _ _ h0 _ h;omega
   ·have:=hX _ _ _ h0 _ h;omega
  ·
   rintro e W2 (⟨⟨v,rfl⟩,X',Y,hi,hY,hn,hl,hk⟩|⟨ch,rfl,hz,hk⟩);rotate_left
   ·exact hdied _ ch _ (Nat.le_refl _) hz hk
   refine⟨none,_,by have:=run_endLoop (P:=P) hl (by rw[hrec];simp);rw[hrec] at this;exact this,hdone _ Y _ (Nat.le_refl _) ((hY _).2 (.inr (.inl rfl))) (hput _ _ _ _ _ hi ((hY _).2 (.inr (.inr rfl))) (by omega)) ((World.putObj_heap_other (by omega)).trans hk)⟩
theorem qdr
 (hro:F.round=none)(h1:1≤n)(hg:a.eval g= .func (.func gf) #[] lb)(hFg:F.fn gf)(eg:∀args w,(callFunc gf args).run P w= .ok (.enter gf args) w)
 {encs:α→Array Value}(hseq:qul F (n - 1) P gf lb encs xs X0 w)(hps:∀x,(encs x).size=ps.size)
 (I:List α→(Nat→Prop)→World→Prop)(hX:∀pre X W,I pre X W→∀k,X k→k<W.heap.size)
 (hrely:∀pre X W W',I pre X W→Below W.heap.size W W'→I pre (qd1 X W W') W')
 (hput:∀pre X W k o',I pre X W→X k→w.heap.size≤k→I pre X (W.putObj k o'))(h0:I [] X0 w)
 (Ax:α→Act→(Nat→Prop)→World→Prop)(hAx:∀x a' X W k o',Ax x a' X W→X k→w.heap.size≤k→Ax x a' X (W.putObj k o'))
 (hassign:∀(l:Nat) (pre:List α) (x:α) (X:Nat→Prop) (W:World) (K:Act→World→Prop),I pre X W→(∀a' W',StaysX X W W'→I pre X W'→Ax x a' X W'→K a' W')→
   assign.wpIn (F.inRound l) (n - 1 - 1) P (Exit.then K (fun _ _ _=>False)) {tmps:=(ps.zip (encs x)).foldl (fun t (p,v)=>t.setIfInBounds p v) a.tmps,defers:=[]} W)
 (hbody:∀(l:Nat) (pre:List α) (x:α) (rest:List α) (a':Act) (X:Nat→Prop) (W:World),xs=pre++x::rest→I pre X W→Ax x a' X W→body.wpIn (F.inRound l) (n - 1 - 1) P (qyz I (fun _ _=>False) (pre++[x]) X W) a' W)
 (hdone:∀(D:Nat) (X:Nat→Prop) (W:World),w.heap.size≤D→X D→I xs X W→W.heap[D]? =some (.deferred (some []))→Q .normal {a with defers:={target:=.collected D,args:=#[]}::a.defers} W):
 (Code.rangeFunc g ps assign body).wpIn F n P Q a w:=by
 exact wpIn_rangeFunc fun fn hfn=>qmy hfn (fun _ _=>False) (.inr fun _ _ h=>h) hro h1 hg hFg eg hseq hps I hX hrely hput h0 Ax hAx hassign hbody hdone (fun _ _ _ _ h _=>h.elim)
def wpF(f0:FuncId)(F:Fence)(n:Nat)(P:Program)(c:Code)(Q:Exit→Act→World→Prop)(a:Act)(w:World):Prop:=
 ∀(b:Frame) (k:List Item) (cs:List Frame),b.roundOf=F.round→b.fn=f0→F.fn b.fn→F.room (cs.length+1+n)→
  ∃e a' w',Q e a' w'∧ArrivesIn (Machine.fenced P F) P (lone (b.atR a (.code c::k)) cs w) b k cs e a' w'
section
variable {f0:FuncId} {Q:Exit→Act→World→Prop} {a:Act} {w:World}
theorem qiw(h:c.wpIn F n P Q a w):wpF f0 F n P c Q a w:=fun b k cs hro _ hb hr=>h b k cs hro hb hr
theorem qfo(h:wpF f0 F n P x (Exit.then (fun a w=>wpF f0 F n P y Q a w) Q) a w):wpF f0 F n P (Code.seq x y) Q a w:=by
 intro b k cs hro hf hb hr;have h0:(lone (b.atR a (.code (.seq x y)::k)) cs w).fenced P F:=fenced_calm hb hr rfl;obtain⟨e,a₁,w₁,hq,harr⟩:=h b (.code y::k) cs hro hf hb hr;cases e with
 |normal=>
  obtain⟨e₂,a₂,w₂,hq₂,harr₂⟩:=hq b k cs hro hf hb hr;exact⟨e₂,a₂,w₂,hq₂,.of_steps (.head h0 stepR_seq harr) harr₂⟩
 |exit id=>exact⟨_,a₁,w₁,hq,.of_steps (.one h0 stepR_seq) (.pass (x:=.code y) rfl (fun _ _=> .inl (by simp)) harr)⟩
 |goto l=>exact⟨_,a₁,w₁,hq,.of_steps (.one h0 stepR_seq) (.pass (x:=.code y) rfl (fun _ _=> .inl (by simp)) harr)⟩
 |ret=>exact⟨_,a₁,w₁,hq,.of_steps (.one h0 stepR_seq) (.pass (x:=.code y) rfl (fun _ _=> .inl (by simp)) harr)⟩
 |panic ch=>exact⟨_,a₁,w₁,hq,.of_steps (.one h0 stepR_seq) (.pass (x:=.code y) rfl (fun _ _=> .inl (by simp)) harr)⟩
 |outgrown=>exact⟨_,a₁,w₁,hq,.of_steps (.one h0 stepR_seq) (.pass (x:=.code y) rfl (fun _ _=> .inl (by simp)) harr)⟩
theorem q07{c:Operand}{t:Bool}(hc:a.eval c= .bool t)(h:wpF f0 F n P (if t then x else y) Q a w):wpF f0 F n P (Code.cond c x y) Q a w:=
 fun b k cs hro hf hb hr=>let ⟨e,a',w',q,r⟩:=h b k cs hro hf hb hr;⟨e,a',w',q,.of_steps (.one (fenced_calm hb hr rfl) (stepR_cond hc)) r⟩
theorem qxm{id:Nat}(h:wpF f0 F n P c (Exit.inBlock id Q) a w):wpF f0 F n P (Code.block id c) Q a w:=by
 intro b k cs hro hf hb hr;have h0:(lone (b.atR a (.code (.block id c)::k)) cs w).fenced P F:=fenced_calm hb hr rfl;obtain⟨e,a₁,w₁,hq,harr⟩:=h b (.inBlock id::k) cs hro hf hb hr;cases e with
 |normal=>exact⟨.normal,a₁,w₁,hq,.head h0 stepR_block (StepsIn.trans harr (.one (fenced_calm hb hr rfl) stepR_inBlock))⟩
 |exit id'=>
  by_cases hid:id'=id
  ·simp only[Exit.inBlock,hid,if_true] at hq
   exact⟨.normal,a₁,w₁,hq,.head h0 stepR_block (harr.1 k (by simp[exitTo,hid]))⟩
  ·simp only[Exit.inBlock,hid,if_false] at hq
   have this:(id==id')=false:=by simp;exact fun h=>hid h.symm
   have hx:exitTo id' (.inBlock id::k)=exitTo id' k:=by simp[exitTo,this]
   exact⟨.exit id',a₁,w₁,hq,fun k' hk=> .head h0 stepR_block (harr.1 k' (by rw[hx];exact hk)),
    fun hr' hk=>let ⟨k₁,h1,h2⟩:=harr.2 hr' (by rw[hx];exact hk);⟨k₁,h1,.head h0 stepR_block h2⟩⟩
 |goto l=>
  have hx:gotoIn l (.inBlock id::k)=gotoIn l k:=by simp[gotoIn]
  exact⟨_,a₁,w₁,hq,fun k' hk=> .head h0 stepR_block (harr.1 k' (by rw[hx];exact hk)),
   fun hr' hk=>let ⟨k₁,h1,h2⟩:=harr.2 hr' (by rw[hx];exact hk);⟨k₁,h1,.head h0 stepR_block h2⟩⟩
 |ret=>exact⟨_,a₁,w₁,hq,.of_steps (.one h0 stepR_block) harr⟩
 |panic ch=>exact⟨_,a₁,w₁,hq,.of_steps (.one h0 stepR_block) harr⟩
 |outgrown=>exact⟨_,a₁,w₁,hq,.of_steps (.one h0 stepR_block) harr⟩
theorem qnz
 (h:F.fn f0→∃(l:Nat) (mark:List Deferred) (w₁:World) (d:Deferred) (w₁':World) (f:FuncId) (args:Array Value) (w₂:World),
   (Instr.enterLoop f0 a.tmps ps assign body F.round).run P w= .ok (l,mark) w₁∧
   (resolve a.eval (rangeCall g l) 0).run P w₁= .ok d w₁'∧
   (∀f',Target.leads P w₁' d.target d.args=some f'→F.fn f')∧
   (invoke d.target d.args).run P w₁'= .ok (.enter f args) w₂∧
   (F.depth.isSome=true→1≤n)∧
   CallsIn F (n - 1) P f args w₂ (rangePost F n P l Q {a with defers:=mark++a.defers})):wpF f0 F n P (Code.rangeFunc g ps assign body) Q a w:=by
 intro b k cs hro hf hb hr;subst hf;obtain⟨l,mark,w₁,d,w₁',f,args,w₂,he,hres,hlead,hinv,hn,hF,hcall⟩:=h hb;rw[←hro] at he;have h0:(lone (b.atR a (.code (.rangeFunc g ps assign body)::k)) cs w).fenced P F:=by
  refine fenced_lone (.inl hb) (fun f' hf'=>hlead f' ?_) (Fence.room_le hr (by omega));have hev:=Frame.eval_atR b a (.code (.rangeFunc g ps assign body)::k);simp only[Frame.atR] at hev;simp only[Frame.about,Frame.atR,he,hev,hres] at hf';exact hf'
 have henter:=stepR_rangeFunc (P:=P) (b:=b) (a:=a) (k:=k) (cs:=cs) (w:=w) he hres hinv;have hroom:F.room ((b.atR {a with defers:=mark++a.defers} (.inRangeFunc l::k)::cs).length+1+(n - 1)):=Fence.room_enter hr hn;obtain⟨e,w₃,fr,hR,hsteps,hfn,hleave⟩:=hcall (b.atR {a with defers:=mark++a.defers} (.inRangeFunc l::k)::cs) hroom;cases e with
 |outgrown=>
  obtain⟨a₀,w₀,hq⟩:=hR;exact⟨.outgrown,a₀,w₀,hq,.inr (Outgrown.of_steps (.one henter) hsteps)⟩
 |returned v=>
  have hl:(lone fr (b.atR {a with defers:=mark++a.defers} (.inRangeFunc l::k)::cs) w₃).fenced P F:=fenced_leaving (hfn▸hF) hroom hleave;obtain⟨jump,w₄,hend,hj⟩:=hR;have sback:StepsIn (Machine.fenced P F) P (lone (b.atR a (.code (.rangeFunc g ps assign body)::k)) cs w) (lone (b.atR {a with defers:=mark++a.defers} ((jump.map Item.code).toList++k)) cs w₄):=by
   refine .head h0 henter (StepsIn.trans hsteps (.head hl ?_ (.one (fenced_calm (fr:=b.atR {a with defers:=mark++a.defers} (.endRangeFunc l::k)) hb hr rfl) (stepR_endRangeFunc hend))));rw[←finish_atR_inRangeFunc l v];exact step_leave_returned hleave
  cases jump with
  |none=>exact⟨.normal,_,w₄,hj,sback⟩
  |some c=>
   obtain⟨e',a'',w₅,hq,harr⟩:=hj b k cs hro hb hr;exact⟨e',a'',w₅,hq,.of_steps sback harr⟩
 |panicked chain=>
  have hl:(lone fr (b.atR {a with defers:=mark++a.defers} (.inRangeFunc l::k)::cs) w₃).fenced P F:=fenced_leaving (hfn▸hF) hroom hleave;refine⟨.panic chain,_,w₃,hR,.inRangeFunc l::k,.head h0 henter (StepsIn.trans hsteps (.one hl ?_))⟩;rw[←Frame.raise_atR];exact step_leave_panicked hleave
theorem qmn{fn:Func}{args:Array Value}
 (hf:P.funcs[f]? =some fn)(hb:fn.body=some c)(hF:F.fn f)
 (h:wpF f F n P c (bodyPostM F n P fn R) {tmps:=args++Array.replicate (fn.ntmps - args.size) undef,defers:=[]} w)(hro:F.round=none:=by rfl):CallsIn F n P f args w R:=by
 refine⟨hF,fun cs hr=>?_⟩;let b:Frame:={(default:Frame) with fn:=f,kind:=.normal,roundOf:=none}
 have henter:Frame.enter P f args .normal=
  b.atR {tmps:=args++Array.replicate (fn.ntmps - args.size) undef,defers:=[]} [.code c]:=by
  simp[Frame.enter,Frame.atR,hf,hb,b]
 obtain⟨e,a',w',hq,harr⟩:=h b [] cs hro.symm rfl hF hr;rw[←henter] at harr;cases e with
 |normal=>
  obtain⟨e',w'',fr',hR,hs,hfn,hl⟩:=leaves_stepsInM a'.defers .returning w' {b.atR a' [] with mode:=.returning} cs rfl rfl rfl hf rfl hF hr hq;exact⟨e',w'',fr',hR,ComesIn.of_steps (StepsIn.trans harr (.one (fenced_calm (fr:=b.atR a' []) hF hr rfl) (stepR_end rfl))) hs,hfn,hl⟩
 |ret=>
  obtain⟨todo,hs₀⟩:=harr.1 rfl;obtain⟨e',w'',fr',hR,hs,hfn,hl⟩:=leaves_stepsInM a'.defers .returning w' {b.atR a' todo with mode:=.returning} cs rfl rfl rfl hf rfl hF hr hq;exact⟨e',w'',fr',hR,ComesIn.of_steps hs₀ hs,hfn,hl⟩
 |panic chain=>
  obtain⟨todo,hs₀⟩:=harr;obtain⟨e',w'',fr',hR,hs,hfn,hl⟩:=leaves_stepsInM a'.defers (.panicking chain) w' {b.atR a' todo with mode:=.panicking chain} cs rfl rfl rfl hf rfl hF hr hq;exact⟨e',w'',fr',hR,ComesIn.of_steps hs₀ hs,hfn,hl⟩
 |exit id=>exact hq.elim
 |goto l=>exact hq.elim
 |outgrown=>exact⟨.outgrown,w',b,hq,harr.resolve_left (by simp[b]),rfl,trivial⟩
end
end Go.Proofs.YtikdblkfjchjbaaGreatDoor
