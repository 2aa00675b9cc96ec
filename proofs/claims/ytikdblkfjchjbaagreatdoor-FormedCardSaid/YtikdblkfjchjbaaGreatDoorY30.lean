import Derived.Lib.LazyBuf
import Derived.Deep.AppendLies
import Derived.Deep.Upon
import Derived.Test.YtikdblkfjchjbaaGreatDoorY00
set_option linter.unusedVariables false
set_option linter.unusedSimpArgs false
set_option maxHeartbeats 16000000
set_option maxRecDepth 100000
namespace Go.Proofs.YtikdblkfjchjbaaGreatDoor
open Go.RowKit
variable{B g c:Nat}{w w':World}{l:List UInt8}
structure BufB(B:Nat)(w:World)(g c:Nat)(l:List UInt8):Prop where
 new:B≤g
 lt:g<w.heap.size
 le:l.length≤c
 max:c≤maxLen
 holds:∀j,j<l.length→w.cell? ⟨g,j,none⟩=(u8s l)[j]?
 there:∀j,j<c→(w.cell? ⟨g,j,none⟩).isSome=true∧w.frozen? ⟨g,j,none⟩=false
theorem BufB.carry(h:BufB B w g c l)(hs:w.heap.size≤w'.heap.size)(hb:w'.heap[g]? =w.heap[g]?):BufB B w' g c l:=
 ⟨h.new,Nat.lt_of_lt_of_le h.lt hs,h.le,h.max,fun j hj=>(World.cell?_of_block (a:=⟨g,j,none⟩) hb).trans (h.holds j hj),fun j hj=>by
  rw[World.cell?_of_block (a:=⟨g,j,none⟩) hb,World.frozen?_of_block (a:=⟨g,j,none⟩) hb];exact h.there j hj⟩
theorem BufB.below(h:BufB B w g c l)(hb:Below w.heap.size w w'):BufB B w' g c l:=h.carry hb.size (hb.block g h.lt)
theorem BufB.rd(h:BufB B w g c l):Rd w (some ⟨g,0,none⟩) (u8s l):=by
 refine .inr ⟨g,0,rfl,fun i u hu=>?_⟩;have hi:i<(u8s l).length:=(List.getElem?_eq_some_iff.1 hu).1;rw[qxz] at hi;rw[Nat.zero_add,h.holds i hi];exact hu
theorem qoy{P:Program}(w:World)(src dst e:TypeId)(s:List UInt8)(hs:P.underlying src=some .string)(hd:P.underlying dst=some (.slice e))(he:P.underlying e=some (.int .u8))(B:Nat)(hB:B≤w.heap.size)(hl:s.length≤1000000000000):
 ∃c o,(convert src dst (.string (S s))).run P w= .ok (.slice (some ⟨w.heap.size,0,none⟩) s.length c) (w.drew.alloc o)∧BufB B (w.drew.alloc o) w.heap.size c s:=by
 have hsz:(S s).size=s.length:=rfl;have hr:=run_bytes_of_string (P:=P) w src dst e (S s) hs hd he;have hge:=grownCap_ge w (S s).size 0 e;have hcm:=grownCap_le_maxLen w (S s).size 0 e (by rw[hsz];unfold maxLen;omega);generalize hc:grownCap w (S s).size 0 e=c at hr hge hcm;have hCs:(bytesRow (S s) c).size=c:=by
  unfold bytesRow;rw[Array.size_append,Array.size_map,Array.size_replicate];show s.length+(c - s.length)=c
  omega
 have hCg:∀j,j<s.length→(bytesRow (S s) c)[j]? =(u8s s)[j]?:=by
  intro j hj;unfold bytesRow u8s;rw[Array.getElem?_append_left (by rw[Array.size_map];exact hj),Array.getElem?_map,List.getElem?_map];show Option.map _ (s.toArray)[j]? =_
  rw[List.getElem?_toArray]
 generalize bytesRow (S s) c=C at hr hCs hCg;have hnew:(w.drew.alloc (.cells C e (C.size,C.size+1))).heap[w.heap.size]? =some (.cells C e (C.size,C.size+1)):=heap_alloc_new w.drew _;refine⟨c,_,hr,⟨hB,?_,by rw[←hsz];exact hge,hcm,fun j hj=>?_,fun j hj=>⟨?_,?_⟩⟩⟩
 ·show w.heap.size<(w.heap.push _).size
  simp
 ·rw[cell_of_row _ _ _ _ _ _ hnew];exact hCg j hj
 ·rw[cell_of_row _ _ _ _ _ _ hnew,Array.getElem?_eq_getElem (by omega)];rfl
 ·unfold World.frozen?
  rw[hnew];simp;omega
end Go.Proofs.YtikdblkfjchjbaaGreatDoor
