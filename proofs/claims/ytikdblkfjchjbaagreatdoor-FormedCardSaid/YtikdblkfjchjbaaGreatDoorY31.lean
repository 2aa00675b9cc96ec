import Derived.Deep.DeepCutAuto
import Derived.BigQuiet
import Derived.StillTailTactics
import Derived.Test.YtikdblkfjchjbaaGreatDoorY01
import Derived.Test.YtikdblkfjchjbaaGreatDoorY30
set_option linter.unusedVariables false
set_option linter.unusedSimpArgs false
set_option maxHeartbeats 16000000
set_option maxRecDepth 100000
namespace Go.Proofs.YtikdblkfjchjbaaGreatDoor
open Go.RowKit
def puB:Nat→List UInt8→Nat×Nat
 |v,[]=>(v,0)
 |v,c::r=>if 48≤c.toNat∧c.toNat≤55 then (if 4294967295<8*v+(c.toNat - 48) then (4294967295,2) else puB (8*v+(c.toNat - 48)) r) else (0,1)
def puV:Nat→Value
 |0=> .nilIface
 |1=> .iface 310 (.int .i64 2)
 |_=> .iface 310 (.int .i64 1)
theorem qvo(s:List UInt8)(w:World)(h0:0<s.length)(hl:s.length≤20):
 Calls Tryz.prog 224 #[.string (S s),.int .i64 8,.int .i64 32] w fun e w'=>e= .returned (.tuple #[.int .u64 ((puB 0 s).1:Nat),puV (puB 0 s).2])∧Below w.heap.size w w':=by
 obtain⟨c0,ob,hcv,hbf⟩:=qoy (P:=Tryz.prog) w 9 113 5 s (by kernel_rfl) (by kernel_rfl) (by kernel_rfl) w.heap.size (Nat.le_refl _) (by omega);have HC:=q6q hbf;have HBC:=q6q (Below.alloc (qgt (Below.refl w.heap.size w)) (Nat.le_refl _) ob);have hem:s.isEmpty=false:=by cases s with
  |nil=>simp at h0
  |cons x r=>rfl
 clear hbf;go_enter Tryz.func224,Tryz.ntmps224;go_wp2;obtain⟨CU,hCU⟩:∃CU:Int,CU=2305843009213693952:=⟨_,rfl⟩;obtain⟨MU,hMU⟩:∃MU:Int,MU=4294967295:=⟨_,rfl⟩;rw[show Value.int IntKind.u64 2305843009213693952=Value.int IntKind.u64 CU by rw[hCU],show Value.int IntKind.u64 4294967295=Value.int IntKind.u64 MU by rw[hMU]];have HCU:=q6q hCU;have HMU:=q6q hMU;clear hCU hMU;go_loopw [101,13,12] (fun i v us wr=>∃k vk:Nat,k≤s.length∧i= .int .i64 k∧v= .int .u64 (vk:Nat)∧vk≤4294967295∧us= .bool false∧Hid (puB 0 s=puB vk (s.drop k))∧Hid (Below (w.drew.alloc ob).heap.size (w.drew.alloc ob) wr)) (fun i _ _ _=>s.length - (intOf i).toNat)
 case atStart=>exact⟨0,0,Nat.zero_le _,rfl,rfl,by omega,rfl,rfl,q6q (Below.refl _ _)⟩
 case round=>
  obtain⟨k,v,hk,rfl,rfl,hv,rfl,HP,HB⟩:=hrel;by_cases hlt:k<s.length
  ·obtain⟨b,o,hbo,_,hc⟩:=HC.out.rd.at k (by rw[qxz];exact hlt)
   cases hbo;have g0:=(HB.out.cell (p:=⟨w.heap.size,0+k,none⟩) HC.out.lt).trans (hc _ _ (q4m s k hlt));rw[Nat.zero_add] at g0;have HE:=q6q (show puB v (s.drop k)=if 48≤s[k].toNat∧s[k].toNat≤55 then (if 4294967295<8*v+(s[k].toNat - 48) then (4294967295,2) else puB (8*v+(s[k].toNat - 48)) (s.drop (k+1))) else (0,1) by rw[List.drop_eq_getElem_cons hlt];rfl);have hc8:s[k].toNat≤255:=by have:=s[k].toNat_lt;omega
   obtain⟨c,hcc⟩:∃c,s[k].toNat=c:=⟨_,rfl⟩;rw[hcc] at g0 HE hc8;clear hc hcc;have hki:(k:Int)<(s.length:Int):=by omega
   by_cases hd:48≤c∧c≤55
   ·have HE1:=q6q (HP.out.trans (HE.out.trans (if_pos hd)))
    have HCd:=q6q hd;have hb1:(48:Int)≤(c:Int):=by omega
    have hb2:(c:Int)≤55:=by omega
    have h95:((c:Int)==95)=false:=by rw[beq_eq_false_iff_ne];omega
    have hcut:¬CU≤(v:Int):=by have:=HCU.out;omega
    have hvb:(v:Int)≤4294967295:=by omega
    by_cases hm:4294967295<8*v+(c - 48)
    ·have hmax:MU<(v:Int)*8+((c:Int) - 48):=by have:=HMU.out;omega
     have HE2:=q6q (HE1.out.trans (if_pos hm));have HM:=q6q hm;clear hd hv hcv hem h0 hm hk hc8;have HB2:=q6q (HBC.out.trans (HB.out.mono HBC.out.size));go_wp2;go_ret2;have hMe:=HMU.out;exact⟨by rw[HE2.out,hMe];rfl,HB2.out⟩
    ·have hmax:¬MU<(v:Int)*8+((c:Int) - 48):=by have:=HMU.out;omega
     have HE2:=q6q (HE1.out.trans (if_neg hm));have HM:=q6q hm;clear hd hv hcv hem h0 hm hk hc8;go_wp2;go_roundw
     case rel=>exact⟨k+1,8*v+(c - 48),by omega,by go_num,by have:=HCd.out;congr 1;omega,by have:=HM.out;omega,rfl,HE2,HB⟩
     case measure=>simp[intOf];omega
   ·have HE1:=q6q (HP.out.trans (HE.out.trans (if_neg hd)))
    have HB2:=q6q (HBC.out.trans (HB.out.mono HBC.out.size));have HD:=q6q hd;clear hv hcv hem h0 hk hd;by_cases h95:c=95
    ·subst h95
     go_wp2
     all_goals
      go_ret2;exact⟨by rw[HE1.out];rfl,HB2.out⟩
    ·have h95i:((c:Int)==95)=false:=by rw[beq_eq_false_iff_ne];omega
     by_cases hlo:c<48
     ·have hb1:¬(48:Int)≤(c:Int):=by omega
      go_wp2
      all_goals
       go_ret2;exact⟨by rw[HE1.out];rfl,HB2.out⟩
     ·have hb1:(48:Int)≤(c:Int):=by omega
      by_cases hhi:c≤57
      ·have hb2:(c:Int)≤57:=by omega
       have hb3:¬(c:Int)≤55:=by have:=HD.out;omega
       go_wp2
       all_goals
        go_ret2;exact⟨by rw[HE1.out];rfl,HB2.out⟩
      ·have hb2:¬(c:Int)≤57:=by omega
       go_wp2
       all_goals
        go_ret2;exact⟨by rw[HE1.out];rfl,HB2.out⟩
  ·obtain rfl:k=s.length:=by omega
   rw[List.drop_length] at HP;have HE1:=q6q (show puB 0 s=(v,0) from HP.out);have HB2:=q6q (HBC.out.trans (HB.out.mono HBC.out.size));clear hcv hem;go_wp2;go_ret2;exact⟨by rw[HE1.out];rfl,HB2.out⟩
def puE(s:List UInt8):Nat×Nat:=if s=[] then (0,1) else puB 0 s
theorem q4a:∀(s:List UInt8) (v:Nat),v≤4294967295→(puB v s).1≤4294967295∧(puB v s).2≤2
 |[],v,h=>⟨h,by simp[puB]⟩
 |c::r,v,h=>by
  unfold puB;split
  ·split
   ·exact⟨Nat.le_refl _,Nat.le_refl _⟩
   ·exact q4a r _ (by omega)
  ·exact⟨by simp,by simp⟩
theorem qm1(s:List UInt8):(puE s).1≤4294967295∧(puE s).2≤2:=by
 unfold puE;split
 ·exact⟨by simp,by simp⟩
 ·exact q4a s 0 (by omega)
theorem qm0(s:List UInt8)(w:World)(hl:s.length≤20):
 Calls Tryz.prog 224 #[.string (S s),.int .i64 8,.int .i64 32] w fun e w'=>e= .returned (.tuple #[.int .u64 ((puE s).1:Nat),puV (puE s).2])∧Below w.heap.size w w':=by
 by_cases h:s=[]
 ·subst h
  go_enter Tryz.func224,Tryz.ntmps224;go_wp2;go_ret2;exact⟨rfl,Below.refl _ _⟩
 ·unfold puE;rw[if_neg h]
  exact qvo s w (List.length_pos_iff.2 h) hl
def finB(neg:Bool)(x:Nat×Nat):Int×Nat:=
 if x.2=1 then (0,1) else if neg=false∧2147483648≤x.1 then (2147483647,2) else if neg=true∧2147483648<x.1 then (-2147483648,2) else (if neg=true then -(x.1:Int) else x.1,0)
def piB(s:List UInt8):Int×Nat:=
 match s with
 |[]=>(0,1)
 |c::r=>if c=43 then finB false (puE r) else if c=45 then finB true (puE r) else finB false (puE (c::r))
theorem ifNe(a:Int)(b:Bool)(w:World)(h:(a=2∧b=true)∨(a=1∧b=false)):(binOp BinOp.neq 57 (.iface 310 (.int .i64 a)) (.iface 310 (.int .i64 1))).run Tryz.prog w= .ok (.bool b) w:=by
 rcases h with⟨rfl,rfl⟩|⟨rfl,rfl⟩
 ·kernel_rfl
 ·kernel_rfl
theorem qy7(s:List UInt8)(w:World)(hl:s.length≤20):
 Calls Tryz.prog 207 #[.string (S s),.int .i64 8,.int .i64 32] w fun e w'=>e= .returned (.tuple #[.int .i64 (piB s).1,puV (piB s).2])∧Below w.heap.size w w':=by
 cases s with
 |nil=>
  go_enter Tryz.func207,Tryz.ntmps207;go_wp2;go_ret2;exact⟨rfl,Below.refl _ _⟩
 |cons c r=>
  have hn2:=fun w=>ifNe 2 true w (.inl ⟨rfl,rfl⟩)
  have hn1:=fun w=>ifNe 1 false w (.inr ⟨rfl,rfl⟩)
  have hw1:wrap64 (IntKind.u64.wrap (2147483648 - 1))=2147483647:=by kernel_rfl
  have hw2:wrap64 (-wrap64 2147483648)= -2147483648:=by kernel_rfl
  have HU:=q6q (qm0 r w (by simp at hl;omega));have HV:=q6q (qm0 (c::r) w hl);by_cases h43:c.toNat=43
  ·have hc:c=43:=by rw[←UInt8.toNat_inj];exact h43
   have HP:=q6q (show piB (c::r)=finB false (puE r) from if_pos hc);have HLe:=q6q (qm1 r);have h43i:((c.toNat:Int)==43)=true:=by rw[beq_iff_eq];omega
   clear h43 hc;go_enter Tryz.func207,Tryz.ntmps207;go_wp2_with fail;refine HU.out.mono ?_;rintro e w1 ⟨rfl,hb⟩;have HB:=q6q hb;clear hb HU HV hl;generalize hx:puE r=x at HP HLe ⊢;obtain⟨v,q⟩:=x;have hvl:(v:Int)≤4294967295:=by have:=HLe.out.1;simp only at this;omega
   clear hx;rcases(show q=0∨q=1∨q=2 by have:=HLe.out.2;simp only at this;omega) with rfl|rfl|rfl
   ·rw[show puV 0=Value.nilIface from rfl]
    go_upto_region 17 with fail;obtain⟨CU,hCU⟩:∃CU:Int,CU=2147483648:=⟨_,rfl⟩;rw[show Value.int IntKind.u64 2147483648=Value.int IntKind.u64 CU by rw[hCU]];have HCU:=q6q hCU;clear hCU;by_cases hm:2147483648≤v
    ·have hc:CU≤(v:Int):=by have:=HCU.out;omega
     have HF:=q6q (show piB (c::r)=(2147483647,2) from HP.out.trans (by unfold finB;simp[hm]));clear hm HLe;go_wp2
     all_goals
      go_ret2;have hMe:=HCU.out;exact⟨by rw[HF.out,hMe];simp only[hw1,hw2];rfl,HB.out⟩
    ·have hc:¬CU≤(v:Int):=by have:=HCU.out;omega
     have HF:=q6q (show piB (c::r)=((v:Int),0) from HP.out.trans (by unfold finB;simp[hm]));have hvs:(v:Int)≤2147483648:=by omega
     clear hm HLe;go_wp2
     all_goals
      go_ret2;exact⟨by rw[HF.out];rfl,HB.out⟩
   ·rw[show puV 1=Value.iface 310 (.int .i64 2) from rfl]
    have HF:=q6q (show piB (c::r)=(0,1) from HP.out.trans (by unfold finB;simp));clear HLe;go_wp2
    all_goals
     go_ret2;exact⟨by rw[HF.out];rfl,HB.out⟩
   ·rw[show puV 2=Value.iface 310 (.int .i64 1) from rfl]
    go_upto_region 17 with fail;obtain⟨CU,hCU⟩:∃CU:Int,CU=2147483648:=⟨_,rfl⟩;rw[show Value.int IntKind.u64 2147483648=Value.int IntKind.u64 CU by rw[hCU]];have HCU:=q6q hCU;clear hCU;by_cases hm:2147483648≤v
    ·have hc:CU≤(v:Int):=by have:=HCU.out;omega
     have HF:=q6q (show piB (c::r)=(2147483647,2) from HP.out.trans (by unfold finB;simp[hm]));clear hm HLe;go_wp2
     all_goals
      go_ret2;have hMe:=HCU.out;exact⟨by rw[HF.out,hMe];simp only[hw1,hw2];rfl,HB.out⟩
    ·have hc:¬CU≤(v:Int):=by have:=HCU.out;omega
     have HF:=q6q (show piB (c::r)=((v:Int),0) from HP.out.trans (by unfold finB;simp[hm]));have hvs:(v:Int)≤2147483648:=by omega
     clear hm HLe;go_wp2
     all_goals
      go_ret2;exact⟨by rw[HF.out];rfl,HB.out⟩
  ·have hc:¬c=43:=fun e=>h43 (by rw[e];rfl)
   have h43i:((c.toNat:Int)==43)=false:=by rw[beq_eq_false_iff_ne];omega
   by_cases h45:c.toNat=45
   ·have hc2:c=45:=by rw[←UInt8.toNat_inj];exact h45
    have HP:=q6q (show piB (c::r)=finB true (puE r) from(if_neg hc).trans (if_pos hc2));have HLe:=q6q (qm1 r);have h45i:((c.toNat:Int)==45)=true:=by rw[beq_iff_eq];omega
    clear h43 h45 hc hc2;go_enter Tryz.func207,Tryz.ntmps207;go_wp2_with fail;refine HU.out.mono ?_;rintro e w1 ⟨rfl,hb⟩;have HB:=q6q hb;clear hb HU HV hl;generalize hx:puE r=x at HP HLe ⊢;obtain⟨v,q⟩:=x;have hvl:(v:Int)≤4294967295:=by have:=HLe.out.1;simp only at this;omega
    clear hx;rcases(show q=0∨q=1∨q=2 by have:=HLe.out.2;simp only at this;omega) with rfl|rfl|rfl
    ·rw[show puV 0=Value.nilIface from rfl]
     go_upto_region 17 with fail;obtain⟨CU,hCU⟩:∃CU:Int,CU=2147483648:=⟨_,rfl⟩;rw[show Value.int IntKind.u64 2147483648=Value.int IntKind.u64 CU by rw[hCU]];have HCU:=q6q hCU;clear hCU;by_cases hm:2147483648<v
     ·have hc:CU<(v:Int):=by have:=HCU.out;omega
      have HF:=q6q (show piB (c::r)=(-2147483648,2) from HP.out.trans (by unfold finB;simp[hm]));clear hm HLe;go_wp2
      all_goals
       go_ret2;have hMe:=HCU.out;exact⟨by rw[HF.out,hMe];simp only[hw1,hw2];rfl,HB.out⟩
     ·have hc:¬CU<(v:Int):=by have:=HCU.out;omega
      have HF:=q6q (show piB (c::r)=(-(v:Int),0) from HP.out.trans (by unfold finB;simp[hm]));have hvs:(v:Int)≤2147483648:=by omega
      clear hm HLe;go_wp2
      all_goals
       go_ret2;exact⟨by rw[HF.out];rfl,HB.out⟩
    ·rw[show puV 1=Value.iface 310 (.int .i64 2) from rfl]
     have HF:=q6q (show piB (c::r)=(0,1) from HP.out.trans (by unfold finB;simp));clear HLe;go_wp2
     all_goals
      go_ret2;exact⟨by rw[HF.out];rfl,HB.out⟩
    ·rw[show puV 2=Value.iface 310 (.int .i64 1) from rfl]
     go_upto_region 17 with fail;obtain⟨CU,hCU⟩:∃CU:Int,CU=2147483648:=⟨_,rfl⟩;rw[show Value.int IntKind.u64 2147483648=Value.int IntKind.u64 CU by rw[hCU]];have HCU:=q6q hCU;clear hCU;by_cases hm:2147483648<v
     ·have hc:CU<(v:Int):=by have:=HCU.out;omega
      have HF:=q6q (show piB (c::r)=(-2147483648,2) from HP.out.trans (by unfold finB;simp[hm]));clear hm HLe;go_wp2
      all_goals
       go_ret2;have hMe:=HCU.out;exact⟨by rw[HF.out,hMe];simp only[hw1,hw2];rfl,HB.out⟩
     ·have hc:¬CU<(v:Int):=by have:=HCU.out;omega
      have HF:=q6q (show piB (c::r)=(-(v:Int),0) from HP.out.trans (by unfold finB;simp[hm]));have hvs:(v:Int)≤2147483648:=by omega
      clear hm HLe;go_wp2
      all_goals
       go_ret2;exact⟨by rw[HF.out];rfl,HB.out⟩
   ·have hc2:¬c=45:=fun e=>h45 (by rw[e];rfl)
    have HP:=q6q (show piB (c::r)=finB false (puE (c::r)) from(if_neg hc).trans (if_neg hc2));have HLe:=q6q (qm1 (c::r));have h45i:((c.toNat:Int)==45)=false:=by rw[beq_eq_false_iff_ne];omega
    clear h43 h45 hc hc2;go_enter Tryz.func207,Tryz.ntmps207;go_wp2_with fail;refine HV.out.mono ?_;rintro e w1 ⟨rfl,hb⟩;have HB:=q6q hb;clear hb HU HV hl;generalize hx:puE (c::r)=x at HP HLe ⊢;obtain⟨v,q⟩:=x;have hvl:(v:Int)≤4294967295:=by have:=HLe.out.1;simp only at this;omega
    clear hx;rcases(show q=0∨q=1∨q=2 by have:=HLe.out.2;simp only at this;omega) with rfl|rfl|rfl
    ·rw[show puV 0=Value.nilIface from rfl]
     go_upto_region 17 with fail;obtain⟨CU,hCU⟩:∃CU:Int,CU=2147483648:=⟨_,rfl⟩;rw[show Value.int IntKind.u64 2147483648=Value.int IntKind.u64 CU by rw[hCU]];have HCU:=q6q hCU;clear hCU;by_cases hm:2147483648≤v
     ·have hc:CU≤(v:Int):=by have:=HCU.out;omega
      have HF:=q6q (show piB (c::r)=(2147483647,2) from HP.out.trans (by unfold finB;simp[hm]));clear hm HLe;go_wp2
      all_goals
       go_ret2;have hMe:=HCU.out;exact⟨by rw[HF.out,hMe];simp only[hw1,hw2];rfl,HB.out⟩
     ·have hc:¬CU≤(v:Int):=by have:=HCU.out;omega
      have HF:=q6q (show piB (c::r)=((v:Int),0) from HP.out.trans (by unfold finB;simp[hm]));have hvs:(v:Int)≤2147483648:=by omega
      clear hm HLe;go_wp2
      all_goals
       go_ret2;exact⟨by rw[HF.out];rfl,HB.out⟩
    ·rw[show puV 1=Value.iface 310 (.int .i64 2) from rfl]
     have HF:=q6q (show piB (c::r)=(0,1) from HP.out.trans (by unfold finB;simp));clear HLe;go_wp2
     all_goals
      go_ret2;exact⟨by rw[HF.out];rfl,HB.out⟩
    ·rw[show puV 2=Value.iface 310 (.int .i64 1) from rfl]
     go_upto_region 17 with fail;obtain⟨CU,hCU⟩:∃CU:Int,CU=2147483648:=⟨_,rfl⟩;rw[show Value.int IntKind.u64 2147483648=Value.int IntKind.u64 CU by rw[hCU]];have HCU:=q6q hCU;clear hCU;by_cases hm:2147483648≤v
     ·have hc:CU≤(v:Int):=by have:=HCU.out;omega
      have HF:=q6q (show piB (c::r)=(2147483647,2) from HP.out.trans (by unfold finB;simp[hm]));clear hm HLe;go_wp2
      all_goals
       go_ret2;have hMe:=HCU.out;exact⟨by rw[HF.out,hMe];simp only[hw1,hw2];rfl,HB.out⟩
     ·have hc:¬CU≤(v:Int):=by have:=HCU.out;omega
      have HF:=q6q (show piB (c::r)=((v:Int),0) from HP.out.trans (by unfold finB;simp[hm]));have hvs:(v:Int)≤2147483648:=by omega
      clear hm HLe;go_wp2
      all_goals
       go_ret2;exact⟨by rw[HF.out];rfl,HB.out⟩
end Go.Proofs.YtikdblkfjchjbaaGreatDoor
