import Derived.Deep.AppendSrc
import Derived.Test.YtikdblkfjchjbaaGreatDoorY08
import Derived.Test.YtikdblkfjchjbaaGreatDoorY28
set_option linter.unusedVariables false
set_option linter.unusedSimpArgs false
set_option maxHeartbeats 16000000
set_option maxRecDepth 100000
namespace Go.Proofs.YtikdblkfjchjbaaGreatDoor
open Go.RowKit
variable{w w':World}{g:Nat}{L:List UInt8}{P:Program}
theorem qsv(c:UInt8)(a b:List UInt8)(h:c∉a):Lib.index (a++c::b) [c]=a.length:=by
 induction a with
 |nil=>rw[List.nil_append,Lib.index,if_pos (by simp[List.isPrefixOf])];rfl
 |cons x a ih=>
  have hx:¬c=x:=by intro e;exact h (by simp[e])
  have ha:c∉a:=by intro e;exact h (by simp[e])
  rw[List.cons_append,Lib.index,if_neg (by simp[List.isPrefixOf];exact hx),ih ha,if_neg (by simp)];simp
theorem qq0(c:UInt8)(a b:List UInt8)(h:c∉a):Lib.cut (a++c::b) [c]=(a,b,true):=by
 unfold Lib.cut;rw[qsv c a b h,if_pos (by omega)];simp
theorem qtj(s p:List UInt8)(w:World):
 Calls Tryz.prog 142 #[.string (S s),.string (S p)] w fun e w'=>e= .returned (.string (S (Lib.trimPrefix s p)))∧w=w':=
 (Tryz.strings_TrimPrefix (S s) (S p) w).mono fun _ _ ⟨he,hw⟩=>⟨he,hw.symm⟩
theorem qmw(c:UInt8)(n:Nat)(w:World)(hn:n≤100000):
 Calls Tryz.prog 76 #[.string (S [c]),.int .i64 n] w fun e w'=>e= .returned (.string (S (List.replicate n c)))∧Below w.heap.size w w':=by
 refine(Tryz.strings_Repeat (S [c]) n w (by omega) (by rw[qc0];simp;omega)).mono fun e w' ⟨he,hw⟩=>⟨?_,hw⟩
 rw[he];have:=Lib.repeatL_replicate c 1 n;rw[show List.replicate 1 c=[c] from rfl,Nat.mul_one] at this;show Ending.returned (.string (S (Lib.repeatL [c] n)))=_
 rw[this]
theorem qqi(w:World):Calls Tryz.prog 222 #[.int .i64 8] w fun e w'=>e= .returned (.bool true)∧w=w':=by
 go_enter Tryz.func222,Tryz.ntmps222;go_wp2;go_ret;exact⟨rfl,rfl⟩
def Tz(w:World):Prop:=w.cell? ⟨9,7,none⟩=some (.int .u8 3)
theorem Tz.below(h:Tz w)(hb:Below w.heap.size w w'):Tz w':=(hb.cell (q6r w _ h)).trans h
theorem q1j(w:World)(h:Tz w):Calls Tryz.prog 233 #[.int .u64 8] w fun e w'=>e= .returned (.int .i64 3)∧w=w':=by
 have hix:(IntKind.u64.wrap (Go.bits BinOp.and IntKind.u64 8 (IntKind.u64.wrap (-8))*285870213051353865) / 288230376151711744).toNat=7:=by kernel_rfl
 unfold Tz at h;rw[←hix] at h;clear hix;go_enter Tryz.func233,Tryz.ntmps233;go_wp2;go_ret;exact⟨rfl,rfl⟩
theorem q38(w:World)(h:Tz w):Calls Tryz.prog 223 #[.int .u64 8] w fun e w'=>e= .returned (.int .i64 3)∧w=w':=by
 go_enter Tryz.func223,Tryz.ntmps223;go_wp2_with fail;refine(q1j _ h).mono ?_;rintro e w' ⟨rfl,rfl⟩;go_wp2;go_ret;exact⟨rfl,rfl⟩
def qeu(q:Nat)(D:List UInt8)(j:Nat):Value:=if q≤j then .int .u8 ((D.getD (j - q) 0).toNat:Int) else .int .u8 0
theorem and7(m:Nat):Go.bits BinOp.and IntKind.u64 (m:Int) 7=((m %8:Nat):Int):=by
 show IntKind.u64.wrap ((BitVec.ofInt 64 (m:Int)&&& BitVec.ofInt 64 7).toNat:Int)=_
 have h:(BitVec.ofInt 64 (m:Int)&&& BitVec.ofInt 64 7).toNat=m %8:=by
  rw[BitVec.toNat_and,show(BitVec.ofInt 64 7).toNat=2^3 - 1 from rfl,Nat.and_two_pow_sub_one_eq_mod,BitVec.toNat_ofInt];omega
 rw[h,IntKind.wrap_u64];omega
theorem q3o:∀(q:Nat) (h:q<36),q<8→[48,49,50,51,52,53,54,55,56,57,97,98,99,100,101,102,103,104,105,106,107,108,109,110,111,112,113,114,115,116,117,118,119,120,121,(122:UInt8)][q]'h=UInt8.ofNat (48+q):=by
 intro q h h8;have:q=0∨q=1∨q=2∨q=3∨q=4∨q=5∨q=6∨q=7:=by omega
 rcases this with rfl|rfl|rfl|rfl|rfl|rfl|rfl|rfl <;> rfl
theorem qmk(n:Nat)(w:World)(hT:Tz w)(hn:n<4294967290):
 Calls Tryz.prog 205 #[.slice none 0 0,.int .u64 n,.int .i64 8,.bool false,.bool false] w fun e w'=>e= .returned (.tuple #[.slice none 0 0,.string (S (octB n))])∧Below w.heap.size w w':=by
 go_enter Tryz.func205,Tryz.ntmps205;go_wp2_with fail;refine(qqi _).mono ?_;rintro e w' ⟨rfl,rfl⟩;go_wp2_with fail;have hrow:(w.alloc (.cells Tryz.zeroCells309 309)).rowIs w.heap.size 309 65 (fun _=> .int .u8 0):=by
  have ez:Tryz.zeroCells309=Array.replicate 65 (Value.int .u8 0):=by kernel_rfl
  rw[ez];have:=World.rowIs_alloc w (Array.replicate 65 (Value.int .u8 0)) 309 (fun _=> .int .u8 0) (by
   intro i hi;rw[Array.size_replicate] at hi;rw[Array.getElem?_replicate,if_pos hi])
  rw[Array.size_replicate] at this;exact this
 have hb0:=(Below.refl w.heap.size w).alloc (Nat.le_refl _) (.cells Tryz.zeroCells309 309);generalize hW:w.alloc (.cells Tryz.zeroCells309 309)=w1 at hrow hb0 ⊢;refine(q38 _ (hT.below hb0)).mono ?_;rintro e w' ⟨rfl,rfl⟩;go_wp2_with fail;go_loopw [1,13] (fun u i wr=>∃(m r:Nat) (D:List UInt8),u= .int .u64 m∧i= .int .i64 (r+1:Nat)∧r+1+D.length=65∧m≤n∧Hid (octB n=octB m++D)∧Hid (wr.rowIs w.heap.size 309 65 (qeu (r+1) D))∧Hid (Below w.heap.size w wr)) (fun u _ _=>(intOf u).toNat)
 case atStart=>exact⟨n,64,[],rfl,rfl,rfl,Nat.le_refl _,by simp[Hid],hrow.congr (fun j hj=>by unfold qeu;rw[if_neg (by omega)]),hb0⟩
 case round=>
  obtain⟨m,r,D,rfl,rfl,hl,hmn,hO,hR,hB⟩:=hrel;have hl2:D.length≤10:=by
   have h1:=congrArg List.length hO.out;have h2:=qgi n 10 (by omega);have h3:=qoi m;rw[List.length_append] at h1;omega
  have hc:=q6q (hR.out.cell (i:=r) (by omega));have hfz:=hR.out.frozen r;have hc0:=hc.out;rw[show qeu (r+1) D r= .int .u8 0 by unfold qeu;rw[if_neg (by omega)]] at hc0;by_cases hlt:8≤m
  ·have h7:=and7 m
   have X:=q6q (qkk (n:=m) (by omega));have h8:m %8<8:=Nat.mod_lt _ (by omega);go_wp2_with fail;go_round
   case rel=>
    refine⟨m / 8,r - 1,UInt8.ofNat (48+m %8)::D,by go_num,?_,by rw[List.length_cons];omega,by omega,?_,?_,?_⟩
    ·rw[show r - 1+1=r by omega]
    ·show octB n=_
     rw[hO.out,X.out];simp
    ·refine(hR.out.set r _).congr fun j hj=>?_
     rw[show r - 1+1=r by omega];have hd:=q3o (m %8) (by omega) h8;by_cases hj1:j=r
     ·subst hj1
      rw[if_pos rfl,hd];unfold qeu;rw[if_pos (Nat.le_refl _),Nat.sub_self];rfl
     ·rw[if_neg hj1];unfold qeu
      by_cases hj2:r+1≤j
      ·rw[if_pos hj2,if_pos (by omega),show j - r=(j - (r+1))+1 by omega,List.getD_cons_succ]
      ·rw[if_neg hj2,if_neg (by omega)]
    ·exact hB.out.setCell (Nat.le_refl _) _
   case measure=>simp[intOf];omega
  ·have hdm:=q3o m (by omega) (by omega)
   have hru:∀w':World,(Instr.sliceAt 309 (.pointer (some ⟨w.heap.size,0,none⟩)) (some (.int .i64 (r:Int))) none none).run Tryz.prog w'= .ok (.slice (some ⟨w.heap.size,r,none⟩) (65 - r) (65 - r)) w':=by
    have e:Tryz.prog.arrayLen 309=65:=by kernel_rfl
    intro w';rw[run_sliceAt_array_l (P:=Tryz.prog) w' 309 ⟨w.heap.size,0,none⟩ (by kernel_rfl) .i64 (r:Int) (by omega) (by rw[e];omega),e];rw[show(sizeOf (Tryz.prog.elem 309)).run Tryz.prog w'= .ok 1 w' from by kernel_rfl];simp only[Result.andThen,slicedAt];rw[if_neg (by omega)];simp[Addr.add]
    try omega
   have hrow2:=hR.out.set r (.int .u8 ((UInt8.ofNat (48+m)).toNat:Int));have hl3:(UInt8.ofNat (48+m)::D).length=65 - r:=by rw[List.length_cons];omega
   have hcv:=run_convert_bytes_back (P:=Tryz.prog) (wr.setCell ⟨w.heap.size,r,none⟩ (.int .u8 ((UInt8.ofNat (48+m)).toNat:Int))) 113 9 5 ⟨w.heap.size,r,none⟩ (65 - r) (UInt8.ofNat (48+m)::D) (by kernel_rfl) (by kernel_rfl) (by kernel_rfl) (by
    intro j hj;rw[show Addr.add ⟨w.heap.size,r,none⟩ j=⟨w.heap.size,r+j,none⟩ from by simp[Addr.add]];rw[hrow2.cell (by rw[hl3] at hj;omega)];cases j with
    |zero=>rw[Nat.add_zero,if_pos rfl];rfl
    |succ j=>
     rw[if_neg (by omega)];unfold qeu;rw[if_pos (by omega),show r+(j+1) - (r+1)=j by omega,List.getElem_cons_succ,List.getD_eq_getElem?_getD,List.getElem?_eq_getElem (by simpa using hj)];rfl)
   rw[hl3] at hcv;have X:=q6q (show octB n=(48+UInt8.ofNat m)::D by rw[hO.out,qf4 (by omega)];simp);have hB2:=q6q (hB.out.setCell (Nat.le_refl _) (p:=⟨w.heap.size,r,none⟩) (.int .u8 ((48+(m:Int)) %256)));clear hrow2 hl3;have hm36:0≤(m:Int)∧(m:Int)<36:=by omega
   have e8:(48+(m:Int)) %256=((UInt8.ofNat (48+m)).toNat:Int):=by simp
   rw[←e8] at hcv;clear e8;go_wp2_with fail;go_ret2;exact⟨by rw[X.out];rfl,hB2.out⟩
theorem qs1(n:Nat)(w:World)(hT:Tz w)(hn:n<4294967290):
 Calls Tryz.prog 176 #[.int .i64 n,.int .i64 8] w fun e w'=>e= .returned (.string (S (octB n)))∧Below w.heap.size w w':=by
 go_enter Tryz.func176,Tryz.ntmps176;go_wp2_with fail;refine(qmk n _ hT hn).mono ?_;rintro e w1 ⟨rfl,hb1⟩;go_wp2_with fail;go_ret;exact⟨rfl,hb1⟩
theorem Hdr.below(h:Hdr w g L)(hb:Below w.heap.size w w'):Hdr w' g L:=by
 obtain⟨h1,h2⟩:=h;have hg:g<w.heap.size:=q6r w _ (h2.cell (i:=0) (by omega));refine⟨h1,?_⟩;obtain⟨c,hc,hcc⟩:=h2;exact⟨c,(hb.block g hg).trans hc,hcc⟩
theorem Hdr.lt(h:Hdr w g L):g<w.heap.size:=q6r w _ (h.2.cell (i:=0) (by omega))
theorem qlt(n:Nat)(v:Int)(w:World)(hT:Tz w)(hn:n<4294967290)(hv:IntKind.u64.wrap (-v)=(n:Int)):
 Calls Tryz.prog 205 #[.slice none 0 0,.int .u64 v,.int .i64 8,.bool true,.bool false] w fun e w'=>e= .returned (.tuple #[.slice none 0 0,.string (S (45::octB n))])∧Below w.heap.size w w':=by
 go_enter Tryz.func205,Tryz.ntmps205;go_wp2_with fail;refine(qqi _).mono ?_;rintro e w' ⟨rfl,rfl⟩;go_wp2_with fail;have hrow:(w.alloc (.cells Tryz.zeroCells309 309)).rowIs w.heap.size 309 65 (fun _=> .int .u8 0):=by
  have ez:Tryz.zeroCells309=Array.replicate 65 (Value.int .u8 0):=by kernel_rfl
  rw[ez];have:=World.rowIs_alloc w (Array.replicate 65 (Value.int .u8 0)) 309 (fun _=> .int .u8 0) (by
   intro i hi;rw[Array.size_replicate] at hi;rw[Array.getElem?_replicate,if_pos hi])
  rw[Array.size_replicate] at this;exact this
 have hb0:=(Below.refl w.heap.size w).alloc (Nat.le_refl _) (.cells Tryz.zeroCells309 309);generalize hW:w.alloc (.cells Tryz.zeroCells309 309)=w1 at hrow hb0 ⊢;refine(q38 _ (hT.below hb0)).mono ?_;rintro e w' ⟨rfl,rfl⟩;go_wp2_with fail;go_loopw [1,13] (fun u i wr=>∃(m r:Nat) (D:List UInt8),u= .int .u64 m∧i= .int .i64 (r+1:Nat)∧r+1+D.length=65∧m≤n∧Hid (octB n=octB m++D)∧Hid (wr.rowIs w.heap.size 309 65 (qeu (r+1) D))∧Hid (Below w.heap.size w wr)) (fun u _ _=>(intOf u).toNat)
 case atStart=>exact⟨n,64,[],rfl,rfl,rfl,Nat.le_refl _,by simp[Hid],hrow.congr (fun j hj=>by unfold qeu;rw[if_neg (by omega)]),hb0⟩
 case round=>
  obtain⟨m,r,D,rfl,rfl,hl,hmn,hO,hR,hB⟩:=hrel;have hl2:D.length≤10:=by
   have h1:=congrArg List.length hO.out;have h2:=qgi n 10 (by omega);have h3:=qoi m;rw[List.length_append] at h1;omega
  have hc:=q6q (hR.out.cell (i:=r) (by omega));have hfz:=hR.out.frozen r;have hc0:=hc.out;rw[show qeu (r+1) D r= .int .u8 0 by unfold qeu;rw[if_neg (by omega)]] at hc0;by_cases hlt:8≤m
  ·have h7:=and7 m
   have X:=q6q (qkk (n:=m) (by omega));have h8:m %8<8:=Nat.mod_lt _ (by omega);go_wp2_with fail;go_round
   case rel=>
    refine⟨m / 8,r - 1,UInt8.ofNat (48+m %8)::D,by go_num,?_,by rw[List.length_cons];omega,by omega,?_,?_,?_⟩
    ·rw[show r - 1+1=r by omega]
    ·show octB n=_
     rw[hO.out,X.out];simp
    ·refine(hR.out.set r _).congr fun j hj=>?_
     rw[show r - 1+1=r by omega];have hd:=q3o (m %8) (by omega) h8;by_cases hj1:j=r
     ·subst hj1
      rw[if_pos rfl,hd];unfold qeu;rw[if_pos (Nat.le_refl _),Nat.sub_self];rfl
     ·rw[if_neg hj1];unfold qeu
      by_cases hj2:r+1≤j
      ·rw[if_pos hj2,if_pos (by omega),show j - r=(j - (r+1))+1 by omega,List.getD_cons_succ]
      ·rw[if_neg hj2,if_neg (by omega)]
    ·exact hB.out.setCell (Nat.le_refl _) _
   case measure=>simp[intOf];omega
  ·have hdm:=q3o m (by omega) (by omega)
   obtain⟨r,rfl⟩:∃k,r=k+1:=⟨r - 1,by omega⟩;have hru:∀w':World,(Instr.sliceAt 309 (.pointer (some ⟨w.heap.size,0,none⟩)) (some (.int .i64 (r:Int))) none none).run Tryz.prog w'= .ok (.slice (some ⟨w.heap.size,r,none⟩) (65 - r) (65 - r)) w':=by
    have e:Tryz.prog.arrayLen 309=65:=by kernel_rfl
    intro w';rw[run_sliceAt_array_l (P:=Tryz.prog) w' 309 ⟨w.heap.size,0,none⟩ (by kernel_rfl) .i64 (r:Int) (by omega) (by rw[e];omega),e];rw[show(sizeOf (Tryz.prog.elem 309)).run Tryz.prog w'= .ok 1 w' from by kernel_rfl];simp only[Result.andThen,slicedAt];rw[if_neg (by omega)];simp[Addr.add]
    try omega
   have e8:(48+(m:Int)) %256=((UInt8.ofNat (48+m)).toNat:Int):=by simp
   have hrow2:=hR.out.set (r+1) (.int .u8 ((48+(m:Int)) %256));have hc2:=hrow2.cell (i:=r) (by omega);rw[if_neg (by omega),show qeu (r+1+1) D r= .int .u8 0 by unfold qeu;rw[if_neg (by omega)]] at hc2;have hfz2:=hrow2.frozen r;have hrow3:=hrow2.set r (.int .u8 45);have hl3:(45::UInt8.ofNat (48+m)::D).length=65 - r:=by simp only[List.length_cons];omega
   have hcv:=run_convert_bytes_back (P:=Tryz.prog) ((wr.setCell ⟨w.heap.size,r+1,none⟩ (.int .u8 ((48+(m:Int)) %256))).setCell ⟨w.heap.size,r,none⟩ (.int .u8 45)) 113 9 5 ⟨w.heap.size,r,none⟩ (65 - r) (45::UInt8.ofNat (48+m)::D) (by kernel_rfl) (by kernel_rfl) (by kernel_rfl) (by
    intro j hj;rw[show Addr.add ⟨w.heap.size,r,none⟩ j=⟨w.heap.size,r+j,none⟩ from by simp[Addr.add]];rw[hrow3.cell (by rw[hl3] at hj;omega)];cases j with
    |zero=>rw[Nat.add_zero,if_pos rfl];rfl
    |succ j=>
     rw[if_neg (by omega)];cases j with
     |zero=>rw[if_pos rfl,e8];rfl
     |succ j=>
      rw[if_neg (by omega)];unfold qeu;rw[if_pos (by omega),show r+(j+1+1) - (r+1+1)=j by omega,List.getElem_cons_succ,List.getElem_cons_succ,List.getD_eq_getElem?_getD,List.getElem?_eq_getElem (by simpa using hj)];rfl)
   rw[hl3] at hcv;have X:=q6q (show octB n=(48+UInt8.ofNat m)::D by rw[hO.out,qf4 (by omega)];simp);have hB2:=q6q ((hB.out.setCell (Nat.le_refl _) (p:=⟨w.heap.size,r+1,none⟩) (.int .u8 ((48+(m:Int)) %256))).setCell (Nat.le_refl _) (p:=⟨w.heap.size,r,none⟩) (.int .u8 45));clear hrow2 hrow3 hl3 e8;have hm36:0≤(m:Int)∧(m:Int)<36:=by omega
   go_upto_region 27 with fail;go_wp2_with fail;go_ret2;exact⟨by rw[X.out];rfl,hB2.out⟩
theorem qs0(n:Nat)(w:World)(hT:Tz w)(hn:n<4294967290)(h0:0<n):
 Calls Tryz.prog 176 #[.int .i64 (-(n:Int)),.int .i64 8] w fun e w'=>e= .returned (.string (S (45::octB n)))∧Below w.heap.size w w':=by
 have hv:IntKind.u64.wrap (-(IntKind.u64.wrap (-(n:Int))))=(n:Int):=by
  rw[IntKind.wrap_u64,IntKind.wrap_u64];omega
 have hF:=q6q (fun wx (hx:Tz wx)=>qlt n (IntKind.u64.wrap (-(n:Int))) wx hx hn hv);have hneg:(-(n:Int))<0:=by omega
 clear hv;go_enter Tryz.func176,Tryz.ntmps176;go_wp2_with fail;refine(hF.out _ hT).mono ?_;rintro e w1 ⟨rfl,hb1⟩;go_wp2_with fail;go_ret;exact⟨rfl,hb1⟩
theorem qsz(n:Int)(w:World)(hT:Tz w)(hn:n<4294967290)(hn2: -4294967290<n):
 Calls Tryz.prog 143 #[.int .i64 n,.int .i64 8] w fun e w'=>e= .returned (.string (S (fmtI n)))∧Below w.heap.size w w':=by
 have hF:Hid (Calls Tryz.prog 176 #[.int .i64 n,.int .i64 8] w fun e w'=>e= .returned (.string (S (fmtI n)))∧Below w.heap.size w w'):=q6q (by
  unfold fmtI;by_cases h:n<0
  ·rw[if_pos h]
   have:=qs0 n.natAbs w hT (by omega) (by omega);rwa [show(-(n.natAbs:Int))=n by omega] at this
  ·rw[if_neg h]
   have:=qs1 n.toNat w hT (by omega);rwa [show((n.toNat:Nat):Int)=n by omega] at this)
 clear hT;go_enter Tryz.func143,Tryz.ntmps143;go_wp2_with fail;refine hF.out.mono ?_;rintro e w1 ⟨rfl,hb1⟩;go_wp2_with fail;go_ret;exact⟨rfl,hb1⟩
def q3p:Value:=repeatPanic Tryz.lays105_ren "strings: negative Repeat count"
def qml:List PanicEntry:=[{v:=q3p,recovered:=false}]
def q03(w:World)(g:Nat)(L:List UInt8)(a k:Nat)(n:Int)(e:Ending)(w':World):Prop:=
 (if (fmtI n).length≤k then e= .returned (.tuple #[])∧Hdr w' g (setB L a (numI n k)) else e= .panicked qml)∧Below g w w'
theorem qtu(g:Nat)(L:List UInt8)(a k:Nat)(n:Int)(w:World)(hH:Hdr w g L)(hT:Tz w)(ha:a+k≤512)(hk1:1≤k)(hk2:k≤100)(hn:n<4294967290)(hn2: -4294967290<n):
 Calls Tryz.prog 114 #[.pointer (some ⟨g,0,none⟩),.int .i64 a,.int .i64 k,.int .i64 n] w (q03 w g L a k n):=by
 have ho:=q3c n;have hol:(fmtI n).length≤13:=by
  unfold fmtI;split
  ·have:=qgi n.natAbs 11 (by omega);rw[List.length_cons];omega
  ·have:=qgi n.toNat 11 (by omega);omega
 have X:=q6q (show numI n k=List.replicate (k - (fmtI n).length) 48++fmtI n from rfl);have hlt:=hH.lt;have HH:=q6q hH;have hF:=q6q (qsz n w hT hn hn2);have HO:=q6q (show ∀e w',(if (fmtI n).length≤k then e= .returned (.tuple #[])∧Hdr w' g (setB L a (numI n k)) else e= .panicked qml)→Below g w w'→q03 w g L a k n e w' from fun _ _ h1 h2=>⟨h1,h2⟩);generalize q03 w g L a k n=Q at HO ⊢;have hH2:Hid ((numI n k).length=k∨k<(fmtI n).length):=q6q (by
  by_cases h:(fmtI n).length≤k
  ·exact .inl (q2i h)
  ·exact .inr (by omega))
 clear hH hT;generalize fmtI n=o at*;by_cases hok:o.length≤k
 ·have HO:=q6q (fun e w' h1 h2=>HO.out e w' (by rw[if_pos hok];exact h1) h2)
  have Y:=q6q (show(numI n k).length=k by rcases hH2.out with h|h;exact h;omega);clear hH2;go_enter Tryz.func114,Tryz.ntmps114;go_wp2_with fail;refine hF.out.mono ?_;rintro e w1 ⟨rfl,hb1⟩;have H1:=q6q (HH.out.below hb1);have B1:=q6q hb1;clear hb1 HH hF;have hkk:(k:Int) - (o.length:Int)=((k - o.length:Nat):Int):=by omega
  go_wp2_with fail;refine(qmw 48 (k - o.length) _ (by omega)).mono ?_;rintro e w2 ⟨rfl,hb2⟩;have H2:=q6q (H1.out.below hb2);have B2:=q6q (B1.out.trans (hb2.mono B1.out.size));have hl:(List.replicate (k - o.length) (48:UInt8)).length≤1000:=by simp;omega
  have hl2:o.length≤1000:=by omega
  rw[X.out] at Y HO;generalize List.replicate (k - o.length) (48:UInt8)=z at*;clear hb2 B1 H1 hkk;go_wp2_with fail;refine(q1m g L a (z++o) _ H2.out (by rw[Y.out];omega) (by omega)).mono ?_;rintro e w3 ⟨rfl,rfl⟩;go_wp2_with fail;go_end0
  exact HO.out _ _ ⟨rfl,by rw[←List.map_append];exact H2.out.set a _ (by rw[Y.out];omega)⟩ (below_setCells (Nat.le_refl _) _ _ _ (B2.out.mono (Nat.le_of_lt hlt)))
 ·have HO:=q6q (fun e w' h1 h2=>HO.out e w' (by rw[if_neg hok];exact h1) h2)
  have hneg:(k:Int) - (o.length:Int)<0:=by omega
  have hR:∀wx:World,Calls Tryz.prog 76 #[.string (S [48]),.int .i64 ((k:Int) - (o.length:Int))] wx fun e w'=>e= .panicked qml∧wx=w':=
   fun wx=>(Tryz.strings_Repeat_negative (S [48]) ((k:Int) - (o.length:Int)) wx hneg).mono fun _ _ h=>⟨h.1,h.2.symm⟩
  have hR:=q6q hR;clear hneg hH2 X;go_enter Tryz.func114,Tryz.ntmps114;go_wp2_with fail;refine hF.out.mono ?_;rintro e w1 ⟨rfl,hb1⟩;have HB:=q6q hb1;clear hb1 hF;go_wp2_with fail;refine(hR.out _).mono ?_;rintro e w2 ⟨rfl,rfl⟩;exact⟨rfl,HO.out _ _ rfl (HB.out.mono (Nat.le_of_lt hlt))⟩
theorem q3d(n:Nat):fmtI (n:Int)=octB n:=by unfold fmtI;rw[if_neg (by omega)];rfl
theorem qgj(g:Nat)(L:List UInt8)(a k n:Nat)(w:World)(hH:Hdr w g L)(hT:Tz w)(ha:a+k≤512)(hk1:1≤k)(hk2:k≤100)(hn:n<4294967290)(hk:(octB n).length≤k):
 Calls Tryz.prog 114 #[.pointer (some ⟨g,0,none⟩),.int .i64 a,.int .i64 k,.int .i64 n] w fun e w'=>e= .returned (.tuple #[])∧Hdr w' g (setB L a (numI n k))∧Below g w w':=
 (qtu g L a k n w hH hT ha hk1 hk2 (by omega) (by omega)).mono fun e w' ⟨h1,h2⟩=>by
   rw[if_pos (by rw[q3d];exact hk)] at h1;exact⟨h1.1,h1.2,h2⟩
def lenOf:Value→Nat|.slice _ n _=>n|_=>0
def qeo(l:List UInt8):List Value:=l.map fun x=>Value.int .u8 (x.toNat:Int)
theorem qh3(l:List UInt8):(qeo l).length=l.length:=by simp[qeo]
theorem q52{base:Nat}{e:TypeId}{size:Nat}{v:Value}{n m c:Nat}{xs:List Value}{A:Option Addr}(h:w.ownsRow base e size v n xs)(hn:0<n)(hv:v= .slice A m c):∃g o,A=some ⟨g,o,none⟩∧base≤g:=by
 rcases h.2 with⟨_,h2⟩|⟨g,cap,cur,h1,h2,_⟩
 ·omega
 ·rw[h1] at hv;cases hv;exact⟨g,0,rfl,h2⟩
def q05(l:List UInt8)(W:World)(e:Ending)(w':World):Prop:=∃A cap,e= .returned (.slice A l.length cap)∧Rd w' A (qeo l)∧Below W.heap.size W w'∧∃g o,A=some ⟨g,o,none⟩∧W.heap.size≤g
theorem Hdr.cell(h:Hdr w g L)(i:Nat)(hi:i<512):w.cell? ⟨g,i,none⟩=some (.int .u8 ((L.getD i 0).toNat:Int)):=h.2.cell hi
theorem Hdr.rd(h:Hdr w g L):Rd w (some ⟨g,0,none⟩) (qeo L):=by
 refine .inr ⟨g,0,rfl,fun i u hu=>?_⟩;unfold qeo at hu;rw[List.getElem?_map] at hu;cases hl:L[i]? with
 |none=>rw[hl] at hu;cases hu
 |some x=>
  rw[hl] at hu;obtain rfl:Value.int .u8 (x.toNat:Int)=u:=Option.some.inj hu;have hi:=(List.getElem?_eq_some_iff.1 hl).1;rw[h.1] at hi;rw[Nat.zero_add,h.cell i hi,List.getD_eq_getElem?_getD,hl];rfl
theorem Hdr.set1(h:Hdr w g L)(a:Nat)(x:UInt8)(ha:a<512):Hdr (w.setCell ⟨g,a,none⟩ (.int .u8 (x.toNat:Int))) g (setB L a [x]):=h.set a [x] (by simp only[List.length_singleton];omega)
theorem Hdr.new(w:World)(cs:Array Value)(hc:cs=Array.replicate 512 (Value.int .u8 0)):Hdr (w.alloc (.cells cs 226)) w.heap.size (List.replicate 512 0):=by
 subst hc;refine⟨List.length_replicate,?_⟩;have:=World.rowIs_alloc w (Array.replicate 512 (Value.int .u8 0)) 226 (fun _=> .int .u8 0) (by
  intro i hi;rw[Array.size_replicate] at hi;rw[Array.getElem?_replicate,if_pos hi])
 rw[Array.size_replicate] at this;refine this.congr fun j hj=>?_
 rw[List.getD_eq_getElem?_getD,List.getElem?_replicate,if_pos hj];rfl
theorem q4j:Tryz.zeroCells226=Array.replicate 512 (Value.int .u8 0):=by kernel_rfl
section
variable (w:World) (g:Nat)
theorem qxq:(Instr.sliceAt 224 (.pointer (some ⟨g,0,none⟩)) none none none).run Tryz.prog w= .ok (.slice (some ⟨g,0,none⟩) 512 512) w:=by
 have e:Tryz.prog.arrayLen 224=512:=by kernel_rfl
 rw[run_sliceAt_array_all (P:=Tryz.prog) w 224 ⟨g,0,none⟩ (by kernel_rfl),e];rw[show(sizeOf (Tryz.prog.elem 224)).run Tryz.prog w= .ok 1 w from by kernel_rfl];simp only[Result.andThen,slicedAt];rw[if_neg (by omega)];simp[Addr.add]
theorem q25(cs:Array Value)(k:Nat)(v:Value)(hk:k<512)(hv:cs[k]? =some v):
 (Instr.index 224 (.agg cs) (.int .i64 (k:Int))).run Tryz.prog w= .ok v w:=by
 have hn:(0≤(k:Int)∧(k:Int)<((512:Nat):Int)):=by omega
 simp[Instr.index,run_underlying Tryz.underlying224,asIntOf,hn,go_sem]
 rw[if_pos hk,hv];rfl
theorem qrn:(storeCells ⟨g,512,none⟩ (List.map (fun b=>Value.int IntKind.u8 b.toNat) (S []).data.toList)).run Tryz.prog w= .ok () w:=rfl
end
open Go.Lib in
theorem qk7(w:World)(base:Nat)(t u ty e:TypeId)(i:TypeInfo)(ht:P.underlying t=some (.slice e))(hu:P.underlying u=some .string)(hi:P.info? e=some i)(hz:i.zero=some (.int .u8 0))
 (hsize:i.size=1)(hby:i.bytes=1)(g n:Nat)(xs:List Value)(hxl:xs.length=n)(holds:∀j u,xs[j]? =some u→w.cell? ((⟨g,0,none⟩:Addr).add j)=some u)(s:ByteArray)(hs0:0<s.size)
 (hbytes:n+s.size≤4294967290)(hbase:base≤w.heap.size):
 ∃v' w',(Builtin.append_ #[t,u] ty #[.slice (some ⟨g,0,none⟩) n n,.string s]).run P w= .ok v' w'∧w'.ownsRow base e 1 v' (n+s.size) (xs++strCells s)∧w.grownBy w' none:=by
 have hr:=run_append_grow_string (P:=P) w t u ty e i (.int .u8 0) ht hu hi hz ⟨g,0,none⟩ n n xs (by rw[hsize];simpa using hxl) holds s (by omega) (by omega) (by rw[hby];exact growslice_fits (by omega) (by omega));have hge:=grownCap_ge w (n+s.size) n e;have hcm:grownCap w (n+s.size) n e≤maxLen:=grownCap_le_maxLen w (n+s.size) n e (by unfold maxLen;omega);have hlen:(xs++strCells s).length=(n+s.size)*1:=by rw[List.length_append,hxl,strCells_length,Nat.mul_one]
 refine⟨_,_,hr,⟨hlen,.inr ⟨w.heap.size,_,_,rfl,hbase,heap_alloc_new w.drew _,hge,hcm,?_,?_⟩⟩,⟨rfl,rfl,rfl,by simp,fun k hk _=>_root_.Go.heap_alloc_old w.drew _ hk⟩⟩
 ·have hz1:(Value.int IntKind.u8 0).cells.size=1:=rfl
  simp only[Array.size_append,List.size_toArray,size_zeroCells,hz1,hxl,strCells_length];omega
 ·simp only[Array.toList_append,List.append_assoc]
  rw[←List.append_assoc,←hlen];exact List.take_left
theorem qiv{ops:Array Oper}{rest:List Oper}{o:Oper}{a:Act}{Q:Exit→Act→World→Prop}(hgd:o.guard=none)(sl x:Operand)(t u:TypeId)
 (ho:o.op= .call {callee:=.builtin .append,args:=#[sl,x],argTypes:=#[t,u]})
 (base:Nat)(e:TypeId)(i:TypeInfo)(ht:P.underlying t=some (.slice e))(hu:P.underlying u=some .string)(hi:P.info? e=some i)(hz:i.zero=some (.int .u8 0))
 (hsize:i.size=1)(hby:i.bytes=1)(g n:Nat)(hs:a.eval sl= .slice (some ⟨g,0,none⟩) n n)(xs:List Value)(hxl:xs.length=n)(holds:∀j u,xs[j]? =some u→w.cell? ((⟨g,0,none⟩:Addr).add j)=some u)
 (s:ByteArray)(hx:a.eval x= .string s)(hs0:0<s.size)(hbytes:n+s.size≤4294967290)(hbase:base≤w.heap.size)
 (h:∀v' w',w'.ownsRow base e 1 v' (n+s.size) (xs++Lib.strCells s)→w.grownBy w' none→wpList P ops Q rest (a.put o.dst v') w'):wpList P ops Q (o::rest) a w:=by
 refine wpList_plain hgd fun K hK=>?_
 obtain⟨v',w',hr,h2,h3⟩:=qk7 (P:=P) w base t u o.type e i ht hu hi hz hsize hby g n xs hxl holds s hs0 hbytes hbase;unfold Oper.wp execOp;simp only[ho,resolve,invoke,builtin,Sem.run_bind,Sem.run_pure,Result.andThen_ok,List.map_toArray,List.map_cons,List.map_nil,hs,hx,hr];exact hK _ _ (h v' w' h2 h3)
theorem qnt(l m:List UInt8):qeo (l++m)=qeo l++qeo m:=by simp[qeo]
theorem qu3(l:List UInt8):Lib.strCells (S l)=qeo l:=rfl
end Go.Proofs.YtikdblkfjchjbaaGreatDoor
