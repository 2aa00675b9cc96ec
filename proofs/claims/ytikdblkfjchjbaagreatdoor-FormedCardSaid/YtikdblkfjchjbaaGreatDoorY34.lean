import Derived.Shelf.RegionOpenPlain
import Derived.Test.YtikdblkfjchjbaaGreatDoorY33
set_option linter.unusedVariables false
set_option linter.unusedSimpArgs false
set_option maxHeartbeats 16000000
set_option maxRecDepth 100000
namespace Go.Proofs.YtikdblkfjchjbaaGreatDoor
open Go.RowKit
structure NumE(w:World):Prop where
 syn:∃v,w.cell? ⟨4,0,none⟩=some (.iface 328 v)
 rng:∃v,w.cell? ⟨5,0,none⟩=some (.iface 328 v)
theorem NumE.below{w w':World}(h:NumE w)(hb:Below w.heap.size w w'):NumE w':=by
 obtain⟨⟨v,hv⟩,u,hu⟩:=h;exact⟨⟨v,(hb.cell (q6r w _ hv)).trans hv⟩,u,(hb.cell (q6r w _ hu)).trans hu⟩
theorem q1n(fn l:List UInt8)(w:World)(hl:l.length≤1000000)(h:NumE w):
 Calls Tryz.prog 225 #[.string (S fn),.string (S l)] w fun e w'=>∃N,e= .returned (.pointer (some ⟨N,0,none⟩))∧Below w.heap.size w w':=by
 obtain⟨v,hv⟩:=h.syn;have mixed:Tryz.prog.follows Departure.mixedOrders=true:=by kernel_rfl
 have HC:=q6q (fun wx=>qno l wx hl);have hG:=q6r w _ hv;have hvd:w.drew.cell? ⟨4,0,none⟩=some _:=hv;clear h hl;go_enter Tryz.func225,Tryz.ntmps225;go_wp2;go_region_with_o (
  go_at_call 236
  refine(HC.out _).mono ?_;rintro e w2 ⟨rfl,hbel⟩;have hv2:w2.cell? ⟨4,0,none⟩=some _:=(hbel.cell (show(⟨4,0,none⟩:Addr).block<w.drew.heap.size from hG)).trans hvd)
 all_goals (
  go_wp2;go_ret;have hs2:w.heap.size≤w2.heap.size:=hbel.size;exact⟨_,rfl,((Below.drew (Below.refl _ w)).trans hbel).alloc hs2 _⟩)
theorem q16(fn l:List UInt8)(w:World)(hl:l.length≤1000000)(h:NumE w):
 Calls Tryz.prog 226 #[.string (S fn),.string (S l)] w fun e w'=>∃N,e= .returned (.pointer (some ⟨N,0,none⟩))∧Below w.heap.size w w':=by
 obtain⟨v,hv⟩:=h.rng;have mixed:Tryz.prog.follows Departure.mixedOrders=true:=by kernel_rfl
 have HC:=q6q (fun wx=>qno l wx hl);have hG:=q6r w _ hv;have hvd:w.drew.cell? ⟨5,0,none⟩=some _:=hv;clear h hl;go_enter Tryz.func226,Tryz.ntmps226;go_wp2;go_region_with_o (
  go_at_call 236
  refine(HC.out _).mono ?_;rintro e w2 ⟨rfl,hbel⟩;have hv2:w2.cell? ⟨5,0,none⟩=some _:=(hbel.cell (show(⟨5,0,none⟩:Addr).block<w.drew.heap.size from hG)).trans hvd)
 all_goals (
  go_wp2;go_ret;have hs2:w.heap.size≤w2.heap.size:=hbel.size;exact⟨_,rfl,((Below.drew (Below.refl _ w)).trans hbel).alloc hs2 _⟩)
theorem q49(a b:Int)(c:Bool)(w:World)(h:(a=2∧b=2∧c=true)∨(a=1∧b=2∧c=false)∨(a=1∧b=1∧c=true)):(binOp BinOp.eql 57 (.iface 310 (.int .i64 a)) (.iface 310 (.int .i64 b))).run Tryz.prog w= .ok (.bool c) w:=by
 rcases h with⟨rfl,rfl,rfl⟩|⟨rfl,rfl,rfl⟩|⟨rfl,rfl,rfl⟩ <;> kernel_rfl
theorem q4p(fn l:List UInt8)(q:Nat)(hq:q=1∨q=2)(w:World)(hl:l.length≤1000000)(h:NumE w):
 Calls Tryz.prog 208 #[.string (S fn),.string (S l),.int .i64 8,.int .i64 32,puV q] w fun e w'=>∃er,e= .returned er∧Below w.heap.size w w':=by
 have HSy:=q6q (q1n fn l w hl h);have HRn:=q6q (q16 fn l w hl h);have he1:=fun w=>q49 2 2 true w (.inl ⟨rfl,rfl,rfl⟩)
 have he2:=fun w=>q49 1 2 false w (.inr (.inl ⟨rfl,rfl,rfl⟩))
 have he3:=fun w=>q49 1 1 true w (.inr (.inr ⟨rfl,rfl,rfl⟩))
 clear h;rcases hq with rfl|rfl
 ·rw[show puV 1=Value.iface 310 (.int .i64 2) from rfl]
  go_enter Tryz.func208,Tryz.ntmps208;go_wp2_with fail;refine HSy.out.mono ?_;rintro e w1 ⟨N,rfl,hb⟩;go_wp2;go_ret;exact⟨_,rfl,hb⟩
 ·rw[show puV 2=Value.iface 310 (.int .i64 1) from rfl]
  go_enter Tryz.func208,Tryz.ntmps208;go_wp2_with fail;refine HRn.out.mono ?_;rintro e w1 ⟨N,rfl,hb⟩;go_wp2;go_ret;exact⟨_,rfl,hb⟩
theorem q0g(neg:Bool)(x:Nat×Nat):(finB neg x).2≤2:=by
 unfold finB;split
 ·simp
 ·split
  ·simp
  ·split <;> simp
theorem q6j{l:List UInt8}{v:Int}{q:Nat}(h:piB l=(v,q)):q=0∨q=1∨q=2:=by
 have h1:(piB l).2≤2:=by
  cases l with
  |nil=>exact(by decide:1≤2)
  |cons c r=>
   show(if c=43 then finB false (puE r) else if c=45 then finB true (puE r) else finB false (puE (c::r))).2≤2
   split
   ·exact q0g _ _
   ·split
    ·exact q0g _ _
    ·exact q0g _ _
 rw[h] at h1;simp only at h1;omega
theorem qp3(l:List UInt8)(w:World)(hl:l.length≤20)(h:NumE w):
 Calls Tryz.prog 183 #[.string (S l),.int .i64 8,.int .i64 32] w fun e w'=>∃er,e= .returned (.tuple #[.int .i64 (piB l).1,er])∧Below w.heap.size w w':=by
 have HU:=q6q (qy7 l w hl);have HT:=q6q (fun (q:Nat) (hq:q=1∨q=2) (fn:List UInt8) (wx:World) (hb:Below w.heap.size w wx)=>q4p fn l q hq wx (by omega) (h.below hb));generalize hx:piB l=x at HU ⊢;obtain⟨v,q⟩:=x;have hq:q=0∨q=1∨q=2:=q6j hx;clear hx h;rcases hq with rfl|rfl|rfl
 ·rw[show puV 0=Value.nilIface from rfl] at HU
  go_enter Tryz.func183,Tryz.ntmps183;go_wp2_with fail;refine HU.out.mono ?_;rintro e w1 ⟨rfl,hb⟩;have HB:=q6q hb;clear hb;go_wp2;go_ret2;exact⟨_,rfl,HB.out⟩
 ·have HT1:=q6q (HT.out 1 (.inl rfl))
  rw[show puV 1=Value.iface 310 (.int .i64 2) from rfl] at HU HT1;go_enter Tryz.func183,Tryz.ntmps183;go_wp2_with fail;refine HU.out.mono ?_;rintro e w1 ⟨rfl,hb⟩;have HB:=q6q hb;clear hb;go_wp2_with fail;refine(HT1.out _ w1 HB.out).mono ?_;rintro e w2 ⟨er,rfl,hb2⟩;have HB2:=q6q (HB.out.trans (hb2.mono HB.out.size));clear hb2;go_wp2;go_ret2;exact⟨_,rfl,HB2.out⟩
 ·have HT1:=q6q (HT.out 2 (.inr rfl))
  rw[show puV 2=Value.iface 310 (.int .i64 1) from rfl] at HU HT1;go_enter Tryz.func183,Tryz.ntmps183;go_wp2_with fail;refine HU.out.mono ?_;rintro e w1 ⟨rfl,hb⟩;have HB:=q6q hb;clear hb;go_wp2_with fail;refine(HT1.out _ w1 HB.out).mono ?_;rintro e w2 ⟨er,rfl,hb2⟩;have HB2:=q6q (HB.out.trans (hb2.mono HB.out.size));clear hb2;go_wp2;go_ret2;exact⟨_,rfl,HB2.out⟩
end Go.Proofs.YtikdblkfjchjbaaGreatDoor
