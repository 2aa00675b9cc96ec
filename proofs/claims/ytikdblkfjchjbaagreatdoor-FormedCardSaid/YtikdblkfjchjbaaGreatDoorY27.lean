import Derived.Test.YtikdblkfjchjbaaGreatDoorY13
import Derived.Test.YtikdblkfjchjbaaGreatDoorY25
import Derived.Test.YtikdblkfjchjbaaGreatDoorY26
set_option linter.unusedVariables false
set_option linter.unusedSimpArgs false
set_option maxHeartbeats 16000000
set_option maxRecDepth 100000
namespace Go.Proofs.YtikdblkfjchjbaaGreatDoor
open Go.RowKit
def q5w(l:List Ent)(w w':World)(e:Ending):Except Flt (List StageG)→Prop
 |.error (f,p)=>∃n,e= .returned (.tuple #[.pointer none,.pointer none,.iface qc3 (.pointer (some ⟨n,0,none⟩))])∧w.heap.size≤n∧w'.heap[n]? =some (Obj.cells #[.int .i64 f,.int .i64 p] tAt (0,0))
 |.ok st=>∃gp ao c k B t,e= .returned (.tuple #[.pointer (some ⟨gp,0,none⟩),.pointer (some ⟨t,0,none⟩),.nilIface])∧PB w' gp ao st.length c k∧FStagesR B w' st ao c∧CtxT w' l t
theorem q3y(s:List UInt8)(l:List Ent)(A:Option Addr)(cap:Nat)(w:World)(hs:s.length≤maxLen)(hg:ErrT w)(hord:Ord w)(hS:Std w)(hr:Rd w A (ents l))(hl:l.length≤2000000000)(hln:l.length≤4294967290)(hsm:∀e∈l,e.path.length≤2000000000∧e.data.length≤2000000000)(hL:Lists l (qav l))(hf:First (qcw l) l.length (-1)):
 Calls Tryz.prog 33 #[.string (S s),.slice A l.length cap] w fun e w'=>q5w l w w' e (qa8 s)∧Below w.heap.size w w':=by
 have HP:=q6q (qoe s w hs hg hord);have HL:=q6q hL;have HF:=q6q hf;have HO:=q6q (fun (wx:World) (hb:Below w.heap.size w wx)=>q54 l A cap wx (hS.below hb) (hr.below hb) hl hsm);clear hg hord hS hr hsm hL hf;go_enter Tryz.func33,Tryz.ntmps33;go_wp2_with fail;refine HP.out.mono ?_;intro e w1 ⟨ho,hb1⟩;have HB1:=q6q hb1;clear hb1 HP;cases hp:qa8 s with
 |error fp=>
  obtain⟨f,p⟩:=fp;rw[hp] at ho;obtain⟨n,rfl,h1,h2⟩:=ho;have HPe:=q6q hp;clear hp;have H1:=q6q h1;have H2:=q6q h2;clear h1 h2;go_wp2;go_ret3;rw[HPe.out];exact⟨⟨n,rfl,H1.out,H2.out⟩,HB1.out⟩
 |ok st=>
  rw[hp] at ho;obtain⟨gp,ao,c,k,B,rfl,h1,h2⟩:=ho;have HPe:=q6q hp;clear hp;have H1:=q6q h1;have H2:=q6q h2;clear h1 h2;go_wp2_with fail;refine(HO.out w1 HB1.out).mono ?_;rintro e w2 ⟨r,hfr,hb2,hr⟩;obtain rfl:=First.uniq HF.out hfr (fun _ _ _ _=>rfl);have HB2:=q6q (HB1.out.trans (hb2.mono HB1.out.size));have H12:=q6q (PB.after H1.out hb2);have H22:=q6q (H2.out.after hb2);clear hfr hb2;rcases hr with⟨_,t,a2,m2,rfl,hT,hV⟩|⟨k2,hr,_⟩
  ·have HT:=q6q hT
   have HV:=q6q hV;clear hT hV;go_wp2;go_ret3;rw[HPe.out];exact⟨⟨gp,ao,c,k,B,t,rfl,H12.out,H22.out,HL.out,_,_,a2,m2,hln,HT.out,HV.out⟩,HB2.out⟩
  ·omega
end Go.Proofs.YtikdblkfjchjbaaGreatDoor
