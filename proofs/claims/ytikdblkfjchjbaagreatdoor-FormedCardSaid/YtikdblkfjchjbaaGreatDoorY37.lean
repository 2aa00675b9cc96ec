import Derived.Test.YtikdblkfjchjbaaGreatDoorY11
import Derived.Test.YtikdblkfjchjbaaGreatDoorY36
set_option linter.unusedVariables false
set_option linter.unusedSimpArgs false
set_option maxHeartbeats 16000000
set_option maxRecDepth 100000
namespace Go.Proofs.YtikdblkfjchjbaaGreatDoor
variable{l:List Ent}{k:Nat}{c:Ent}
theorem qzx(h:mayL l=true)(hc:l[k]? =some c):qps k c=true:=by
 obtain⟨hk,rfl⟩:=List.getElem?_eq_some_iff.1 hc;have:=List.all_eq_true.1 h k (List.mem_range.2 hk);unfold barP at this;rw[hc] at this;simp only[Bool.not_or,Bool.not_not,Bool.and_eq_true] at this;exact this.1.1
theorem qty(h:mayL l=true)(hc:l[k]? =some c):k<80∧qa5 c.path=true∧(c.kind<4→c.path≠[]∧qbh c=true):=by
 have:=qzx h hc;unfold qps at this;simp only[Bool.and_eq_true,decide_eq_true_eq] at this;refine⟨this.1.1,this.1.2,fun hk=>?_⟩;have h2:=this.2;rw[if_neg (by omega),if_neg (by omega)] at h2;simp only[Bool.and_eq_true,Bool.not_eq_true',List.isEmpty_eq_false_iff] at h2;exact h2
theorem q43(h:mayL l=true):l.length≤80:=by
 by_cases h0:l.length=0
 ·omega
 ·have:=(qty h (List.getElem?_eq_getElem (show l.length - 1<l.length by omega))).1
  omega
theorem q1h(s:List UInt8):∀(f a:Nat) (D L:List Ent),unpX s f a D= .ok L→mayL D=true→mayL L=true:=by
 intro f;induction f with
 |zero=>intro a D L h;rw[unpX] at h;cases h
 |succ f ih=>
  intro a D L h hD;rw[unpX] at h;split at h
  ·cases h;exact hD
  ·split at h
   ·cases h
   ·split at h
    ·cases h
    ·split at h
     ·cases h
     ·split at h
      ·rename_i hm;exact ih _ _ _ h hm.2
      ·cases h
def qjn(l:List Ent)(tp:List UInt8):List Ent→Except Int (List Ent)
 |[]=> .ok l
 |c::r=>if c.kind<4 then (match qdy l (upB (inB tp c.path)).1 with
  |.error k=> .error k
  |.ok l1=>match layE l1 ⟨inB tp c.path,c.kind,c.mode,c.data⟩ with
   |.error k=> .error k
   |.ok l2=>qjn l2 tp r) else .error 4
def qjl(c l:List Ent)(wk src dst:List UInt8):Option (Except Int (List Ent)):=match wayL [] src with
 |.error k=>some (.error k)
 |.ok p=>match wayL wk dst with
  |.error k=>some (.error k)
  |.ok tp=>if qb3 c p=0 then some (.error 8) else if qb3 c p=2 then (match qh7 c p with
   |none=>some (.error 8)
   |some e=>match unpX e.data (e.data.length+1) 0 [] with
    |.dies=>none
    |.bad _=>some (.error 4)
    |.ok L=>match qdy l tp with
     |.error k=>some (.error k)
     |.ok l1=>some (qjn l1 tp L)) else some (.error 9)
end Go.Proofs.YtikdblkfjchjbaaGreatDoor
