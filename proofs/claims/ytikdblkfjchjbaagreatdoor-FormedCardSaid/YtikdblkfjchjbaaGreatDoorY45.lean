import Derived.Test.YtikdblkfjchjbaaGreatDoorY40
import Derived.Test.YtikdblkfjchjbaaGreatDoorY44
set_option linter.unusedVariables false
set_option linter.unusedSimpArgs false
set_option maxHeartbeats 16000000
set_option maxRecDepth 100000
namespace Go.Proofs.YtikdblkfjchjbaaGreatDoor
open Go.RowKit
variable{w w' wB w0:World}{mr n g i j t mb:Nat}{f:Nat→Value}{s:StX}{l:List Ent}{E:Obj→Prop}{D:Nat→Prop}{wk:List UInt8}
def PRow(w:World)(mr n:Nat)(f:Nat→Value):Prop:=∃cs T,w.heap[mr]? =some (.cells cs T (0,0))∧∀j,j<n→cs[j]? =some (f j)
theorem PRow.lt(h:PRow w mr n f):mr<w.heap.size:=by
 obtain⟨cs,T,h1,_⟩:=h;exact(q6s h1).1
theorem PRow.after(h:PRow w mr n f)(hb:Below w.heap.size w w'):PRow w' mr n f:=by
 obtain⟨cs,T,h1,h2⟩:=h;exact⟨cs,T,(hb.block mr (q6s h1).1).trans h1,h2⟩
theorem PRow.cell(h:PRow w mr n f)(hj:j<n):w.cell? ⟨mr,j,none⟩=some (f j)∧w.frozen? ⟨mr,j,none⟩=false:=by
 obtain⟨cs,T,h1,h2⟩:=h;refine⟨?_,frozen_of_row _ _ _ _ _ h1⟩;rw[cell_of_row _ _ _ _ _ _ h1];exact h2 j hj
theorem PRow.set(h:PRow w mr n f)(k:Nat)(v:Value):PRow (w.setCell ⟨mr,k,none⟩ v) mr n (fun j=>if j=k then v else f j):=by
 obtain⟨cs,T,h1,h2⟩:=h;refine⟨_,T,heap_setCell_same w mr k _ _ v h1,fun j hj=>?_⟩;have hj2:=(q6s (h2 j hj)).1;rw[Array.getElem?_setIfInBounds];by_cases e:j=k
 ·subst e;simp[hj2]
 ·rw[if_neg (fun h=>e h.symm)]
  show cs[j]? =some (if j=k then v else f j)
  rw[if_neg e];exact h2 j hj
def ptrX(M:Nat→Option StX)(G:Nat→Nat)(j:Nat):Value:=match M j with
 |some _=> .pointer (some ⟨G j,0,none⟩)
 |none=> .pointer none
def FinX(wB w:World)(mr i:Nat)(s:StX)(g:Nat):Prop:=
 ∃(wS:World) (n t mb N:Nat) (D:Nat→Prop),n≤100000*i∧N≤100*i∧mr<wS.heap.size∧Below wB.heap.size wB wS∧StM wS w n s.1 t g mb (EnvO N s.2.1) D s.2.2∧SmX s
theorem FinX.after(h:FinX wB w mr i s g)(hb:Below w.heap.size w w'):FinX wB w' mr i s g:=by
 obtain⟨wS,n,t,mb,N,D,h1,h2,h3,h4,h5,h6⟩:=h;exact⟨wS,n,t,mb,N,D,h1,h2,h3,h4,h5.after hb,h6⟩
theorem FinX.mono(h:FinX wB w mr i s g)(hij:i≤j):FinX wB w mr j s g:=by
 obtain⟨wS,n,t,mb,N,D,h1,h2,h3⟩:=h;exact⟨wS,n,t,mb,N,D,by omega,by omega,h3⟩
theorem qs9{B:Nat}(h:Below B w w')(a:Addr)(v:Value)(ha:a.block<B):Below B (w.setCell a v) (w'.setCell a v):=by
 refine⟨h.os,h.tape,h.output,by simpa using h.size,fun k hk=>?_⟩;have hb:=h.block k hk;simp only[World.setCell,Array.getElem?_modify];rw[hb]
theorem StM.pokeX(h:StM w0 w n l t g mb E D wk)(a:Addr)(v:Value)(ha:a.block<w0.heap.size):StM (w0.setCell a v) (w.setCell a v) n l t g mb E D wk:=by
 obtain⟨N,at_,m,h1,h2,h3,h4,h5⟩:=h.tree;obtain⟨o,e1,e2⟩:=h.env;have hs0:(w0.setCell a v).heap.size=w0.heap.size:=by simp
 have hw:∀i,w0.heap.size≤i→(w.setCell a v).heap[i]? =w.heap[i]?:=fun i hi=>heap_setCell_other w a i v (by omega)
 have ho:=h.own;refine⟨by rw[hs0];exact qs9 h.below a v ha,h.lst,h.len,⟨N,at_,m,h1,⟨h2.tree,fun p x hx=>?_,fun p x hx hd=>?_,by rw[hs0];exact h2.base,h2.inj,h2.injm⟩,?_,h4,h5⟩,?_,⟨o,?_,e2⟩,by rw[hs0];exact ho,h.way,h.dmb,fun i hi=>by simpa using h.dlt i hi,h.mg⟩
 ·exact(hw (at_ p) (h2.base p x hx).1).trans (h2.node p x hx)
 ·exact(h2.dir p x hx hd).block (hw (m p) ((h2.base p x hx).2 hd))
 ·unfold TreeV at h3 ⊢
  rw[←h3];exact World.cell?_of_block (hw t ho.2.2)
 ·exact(hw g ho.1).trans h.blk
 ·exact(hw mb ho.2.1).trans e1
theorem FinX.poke(h:FinX wB w mr i s g)(hm:wB.heap.size≤mr)(k:Nat)(v:Value):FinX wB (w.setCell ⟨mr,k,none⟩ v) mr i s g:=by
 obtain⟨wS,n,t,mb,N,D,h1,h2,h3,h4,h5,h6⟩:=h;exact⟨wS.setCell ⟨mr,k,none⟩ v,n,t,mb,N,D,h1,h2,by simpa using h3,h4.setCell hm v,h5.pokeX ⟨mr,k,none⟩ v h3,h6⟩
theorem StM.ctx(h:StM w0 w n l t g mb E D wk)(hn:n≤4000000000):CtxT w l t:=by
 obtain⟨N,a,m,h1,h2,h3,_⟩:=h.tree;exact⟨h.lst,_,N,a,m,by omega,h2,h3⟩
theorem Lists.data{F:qag}(h:Lists l F):∀e∈l,e.data.length≤100000:=by
 intro e he;have hg:=(h.each e he).2.2;unfold qbh at hg;repeat' split at hg
 ·simp only[Bool.and_eq_true,List.isEmpty_iff] at hg;rw[hg.2];simp
 ·simp only[Bool.and_eq_true,decide_eq_true_eq] at hg;omega
 ·simp only[Bool.and_eq_true] at hg
  have:=hg.2;unfold qdt at this;simp only[Bool.and_eq_true,decide_eq_true_eq] at this;omega
 ·cases hg
theorem q12(w:World):Calls Tryz.prog 56 #[] w fun e w'=>∃t g mb,e= .returned (.pointer (some ⟨g,0,none⟩))∧StM w w' 0 noX.1 t g mb (EnvO 0 noX.2.1) (fun k=>k<w.heap.size∨k=mb) noX.2.2:=
 (qrx w).mono fun e w' ⟨t,g,mb,he,h⟩=>⟨t,g,mb,he,h.envMono fun o ho=>by
   have ho:o= .map #[] 0:=ho;exact⟨w.alloc (.map #[] 0),w.heap.size,by rw[ho];exact World.alloc_heap_new w _,EnvIs.made w⟩⟩
end Go.Proofs.YtikdblkfjchjbaaGreatDoor
