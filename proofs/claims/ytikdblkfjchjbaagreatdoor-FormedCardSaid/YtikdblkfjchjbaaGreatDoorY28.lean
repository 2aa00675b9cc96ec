import Derived.Lib.LazyBuf
import Derived.StillTailTactics
import Derived.Test.YtikdblkfjchjbaaGreatDoorY01
set_option linter.unusedVariables false
set_option linter.unusedSimpArgs false
set_option maxHeartbeats 16000000
set_option maxRecDepth 100000
namespace Go.Proofs.YtikdblkfjchjbaaGreatDoor
open Go.RowKit
variable{L s:List UInt8}{a:Nat}
def Hdr(w:World)(g:Nat)(L:List UInt8):Prop:=L.length=512∧w.rowIs g 226 512 (fun j=> .int .u8 ((L.getD j 0).toNat:Int))
def setB(L:List UInt8)(a:Nat)(s:List UInt8):List UInt8:=L.take a++s++L.drop (a+s.length)
theorem q1y(h:a+s.length≤L.length):(setB L a s).length=L.length:=by simp[setB];omega
theorem q1z(h:a+s.length≤L.length)(j:Nat):(setB L a s).getD j 0=if a≤j∧j<a+s.length then s.getD (j - a) 0 else L.getD j 0:=by
 unfold setB;simp only[List.getD_eq_getElem?_getD];by_cases h1:j<a
 ·rw[if_neg (by omega),List.append_assoc,List.getElem?_append_left (by simp;omega),List.getElem?_take_of_lt h1]
 ·by_cases h2:j<a+s.length
  ·rw[if_pos ⟨by omega,h2⟩,List.append_assoc,List.getElem?_append_right (by simp;omega),List.getElem?_append_left (by simp;omega)]
   congr 2;simp;omega
  ·rw[if_neg (by omega),List.getElem?_append_right (by simp;omega),List.getElem?_drop]
   congr 2;simp;omega
theorem Hdr.set{w:World}{g:Nat}(h:Hdr w g L)(a:Nat)(s:List UInt8)(hs:a+s.length≤512):
 Hdr (w.setCells g a (s.map fun x=>Value.int .u8 (x.toNat:Int))) g (setB L a s):=by
 obtain⟨h1,h2⟩:=h;refine⟨(q1y (by omega)).trans h1,?_⟩;refine(rowIs_setCells _ a _ _ h2).congr fun j hj=>?_
 rw[q1z (by omega),List.length_map];split
 ·rename_i hc
  rw[List.getElem?_map,List.getElem?_eq_getElem (by omega)];simp only[Option.map_some,Option.getD_some,List.getD_eq_getElem?_getD,List.getElem?_eq_getElem (show j - a<s.length by omega)]
 ·rfl
theorem q1m(g:Nat)(L:List UInt8)(a:Nat)(s:List UInt8)(w:World)(hH:Hdr w g L)(hs:a+s.length≤512)(ha:a<512):
 Calls Tryz.prog 115 #[.pointer (some ⟨g,0,none⟩),.int .i64 a,.string (S s)] w fun e w'=>e= .returned (.tuple #[])∧w'=w.setCells g a (s.map fun x=>Value.int .u8 (x.toNat:Int)):=by
 have e:Tryz.prog.arrayLen 224=512:=by kernel_rfl
 have ha0:(0:Int)≤(a:Int):=by omega
 have ha1:(a:Int)≤(Tryz.prog.arrayLen 224:Int):=by rw[e];omega
 have hru:∀w:World,(Instr.sliceAt 224 (.pointer (some ⟨g,0,none⟩)) (some (.int .i64 (a:Int))) none none).run Tryz.prog w= .ok (.slice (some ⟨g,a,none⟩) (512 - a) (512 - a)) w:=by
  intro w;rw[run_sliceAt_array_l (P:=Tryz.prog) w 224 ⟨g,0,none⟩ (by kernel_rfl) .i64 (a:Int) ha0 ha1,e];rw[show(sizeOf (Tryz.prog.elem 224)).run Tryz.prog w= .ok 1 w from by kernel_rfl];simp only[Result.andThen,slicedAt];rw[if_neg (by omega)];simp[Addr.add]
  try omega
 clear e ha1;have hcp:(Builtin.copy_ #[113,9] 3 #[.slice (some ⟨g,a,none⟩) (512 - a) (512 - a),.string (S s)]).run Tryz.prog w= .ok (goInt (S s).size) (w.setCells g a ((S s).data.toList.map fun x=>Value.int .u8 (x.toNat:Int))):=
  run_copy_string w _ _ _ 5 g a _ _ (S s) (by kernel_rfl) (fun _=>by kernel_rfl) (by rw[qc0];omega)
   (fun j hj=>by rw[qc0] at hj;rw[hH.2.cell (by omega)];rfl) (fun j _=>hH.2.frozen _)
 rw[qc0] at hcp;go_enter Tryz.func115,Tryz.ntmps115;go_wp2_with fail;go_end0
 exact⟨rfl,rfl⟩
def fmtI(n:Int):List UInt8:=if n<0 then 45::octB n.natAbs else octB n.toNat
def numI(n:Int)(k:Nat):List UInt8:=List.replicate (k - (fmtI n).length) 48++fmtI n
theorem q2i{n:Int}{k:Nat}(h:(fmtI n).length≤k):(numI n k).length=k:=by unfold numI;rw[List.length_append,List.length_replicate];omega
theorem q3c(n:Int):0<(fmtI n).length:=by
 unfold fmtI;split
 ·simp
 ·exact qoi _
def setC(L:List UInt8)(a:Nat)(s:List UInt8):List UInt8:=setB L a (s.take (512 - a))
def cutX(r:List UInt8):List UInt8×List UInt8:=(r.takeWhile (· != 47),(r.dropWhile (· != 47)).drop 1)
theorem q0k(a b:List UInt8)(h:(47:UInt8)∉a):cutX (a++47::b)=(a,b):=by
 unfold cutX;have h1:∀c∈a,(c != 47)=true:=fun c hc=>bne_iff_ne.2 fun e=>h (e▸hc)
 rw[List.takeWhile_append_of_pos h1,List.dropWhile_append_of_pos h1];simp
theorem qq1(a:List UInt8)(h:(47:UInt8)∉a):cutX a=(a,[]):=by
 unfold cutX;have h1:∀c∈a,(c != 47)=true:=fun c hc=>bne_iff_ne.2 fun e=>h (e▸hc)
 have:=List.takeWhile_append_of_pos (l₂:=[]) h1;rw[List.append_nil] at this;have h2:=List.dropWhile_append_of_pos (l₂:=[]) h1;rw[List.append_nil] at h2;rw[this,h2];simp
theorem q3r(r:List UInt8):(cutX r).1.length+(cutX r).2.length≤r.length∧(r≠[]→(cutX r).2.length<r.length):=by
 by_cases h:(47:UInt8)∈r
 ·obtain⟨a,b,rfl,ha⟩:=List.eq_append_cons_of_mem h
  rw[q0k a b ha];simp;omega
 ·rw[qq1 r h]
  refine⟨by simp,fun hne=>?_⟩;have:=List.length_pos_iff.2 hne;simpa using this
def qic:Nat→List UInt8→List UInt8→List UInt8
 |0,a,_=>a
 |f+1,a,r=>if r.length≤100 then a else qic f (inB a (cutX r).1) (cutX r).2
def qzq(N:List UInt8):List UInt8×List UInt8:=
 (qic (N.length+1) [] N,Lib.trimPrefix (Lib.trimPrefix N (qic (N.length+1) [] N)) [47])
def hdrX(N:List UInt8)(m:Int)(size:Nat)(flag:UInt8)(link:List UInt8):List UInt8:=
 setB (setB (setC (setC (setB (setC (setB (setB (setB (setB (setB (setC (setC (List.replicate 512 0) 345 (qzq N).1) 0 (qzq N).2) 100 (numI m 7)) 108 (numI 0 7)) 116 (numI 0 7)) 124 (numI size 11)) 136 (numI 0 11)) 148 [32,32,32,32,32,32,32,32]) 156 [flag]) 157 link) 257 [117,115,116,97,114,0,48,48]) 329 (numI 0 7)) 337 (numI 0 7)
def entX(c:Ent):Option (List UInt8):=
 if 7<(fmtI c.mode).length then none
 else
  some (setB (setB (hdrX (namB c) c.mode (qkg c).length (qw1 c) (qqe c)) 148 (numI (sumB (hdrX (namB c) c.mode (qkg c).length (qw1 c) (qqe c))) 6)) 154 [0]++qkg c++List.replicate ((512 - (qkg c).length %512) %512) 0)
section
variable {P:Program}
theorem qn5(w:World)(dT sT ty elem:TypeId)(b o dLen dCap:Nat)(t:ByteArray)
 (hu:P.underlying dT=some (.slice elem))(hz:∀w,(Go.sizeOf elem).run P w= .ok 1 w)
 (hc:∀j,j<dLen→(w.cell? ⟨b,o+j,none⟩).isSome=true)(hf:∀j,j<dLen→w.frozen? ⟨b,o+j,none⟩=false):
 (Builtin.copy_ #[dT,sT] ty #[.slice (some ⟨b,o,none⟩) dLen dCap,.string t]).run P w= .ok (goInt (Nat.min t.size dLen)) (w.setCells b o ((t.data.toList.take dLen).map fun x=>Value.int .u8 (x.toNat:Int))):=by
 have hl:((t.data.toList.take dLen).map fun x=>Value.int .u8 (x.toNat:Int)).length=Nat.min t.size dLen:=by
  rw[List.length_map,List.length_take,←Lib.size_eq];exact Nat.min_comm _ _
 have hle:Nat.min t.size dLen≤dLen:=Nat.min_le_right _ _;have hst:=run_storeCells_cells (P:=P) b o ((t.data.toList.take dLen).map fun x=>Value.int .u8 (x.toNat:Int)) 0 w (by rw[hl];intro j hj;simpa using hc j (by omega)) (by rw[hl];intro j hj;simpa using hf j (by omega)) (by
  intro v hv;obtain⟨x,_,rfl⟩:=List.mem_map.1 hv;rfl)
 simp[Builtin.copy_,run_underlying hu,Builtin.lenOf,Builtin.firstCells,hz]
 have ht:List.take (t.size.min dLen) (List.map (fun b=>Value.int IntKind.u8 (b.toNat:Int)) t.data.toList)=List.map (fun b=>Value.int IntKind.u8 (b.toNat:Int)) (List.take dLen t.data.toList):=by
  rw[←List.map_take];show List.map _ (List.take (min t.size dLen) _)=_
  rw[Nat.min_comm,←List.take_take];congr 2
  exact List.take_of_length_le (by rw[←Lib.size_eq];exact Nat.le_refl _)
 rw[ht,hst];simp[List.map_take]
end
theorem qg4(g:Nat)(L:List UInt8)(a:Nat)(s:List UInt8)(w:World)(hH:Hdr w g L)(ha:a<512):
 Calls Tryz.prog 115 #[.pointer (some ⟨g,0,none⟩),.int .i64 a,.string (S s)] w fun e w'=>e= .returned (.tuple #[])∧Hdr w' g (setC L a s)∧Below g w w':=by
 have e:Tryz.prog.arrayLen 224=512:=by kernel_rfl
 have ha0:(0:Int)≤(a:Int):=by omega
 have ha1:(a:Int)≤(Tryz.prog.arrayLen 224:Int):=by rw[e];omega
 have hru:∀w:World,(Instr.sliceAt 224 (.pointer (some ⟨g,0,none⟩)) (some (.int .i64 (a:Int))) none none).run Tryz.prog w= .ok (.slice (some ⟨g,a,none⟩) (512 - a) (512 - a)) w:=by
  intro w;rw[run_sliceAt_array_l (P:=Tryz.prog) w 224 ⟨g,0,none⟩ (by kernel_rfl) .i64 (a:Int) ha0 ha1,e];rw[show(sizeOf (Tryz.prog.elem 224)).run Tryz.prog w= .ok 1 w from by kernel_rfl];simp only[Result.andThen,slicedAt];rw[if_neg (by omega)];simp[Addr.add]
  try omega
 clear e ha1;have hcp:(Builtin.copy_ #[113,9] 3 #[.slice (some ⟨g,a,none⟩) (512 - a) (512 - a),.string (S s)]).run Tryz.prog w= .ok (goInt (Nat.min (S s).size (512 - a))) (w.setCells g a (((S s).data.toList.take (512 - a)).map fun x=>Value.int .u8 (x.toNat:Int))):=
  qn5 w _ _ _ 5 g a _ _ (S s) (by kernel_rfl) (fun _=>by kernel_rfl)
   (fun j hj=>by rw[hH.2.cell (by omega)];rfl) (fun j _=>hH.2.frozen _)
 rw[show(S s).data.toList=s from rfl] at hcp;have hF:=q6q (hH.set a (s.take (512 - a)) (by rw[List.length_take];omega));have hB:=q6q (below_setCells (Nat.le_refl g) ((s.take (512 - a)).map fun x=>Value.int .u8 (x.toNat:Int)) a w (Below.refl _ _));generalize w.setCells g a ((s.take (512 - a)).map fun x=>Value.int .u8 (x.toNat:Int))=w2 at hcp hF hB;clear hH;go_enter Tryz.func115,Tryz.ntmps115;go_wp2_with fail;go_end0
 exact⟨rfl,hF.out,hB.out⟩
end Go.Proofs.YtikdblkfjchjbaaGreatDoor
