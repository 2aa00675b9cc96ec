import Derived.Laws.AppendOwnNone
import Derived.Deep.DeepCutAuto
import Derived.Test.YtikdblkfjchjbaaGreatDoorY00
set_option linter.unusedVariables false
set_option linter.unusedSimpArgs false
set_option maxHeartbeats 16000000
set_option maxRecDepth 100000
namespace Go.Proofs.YtikdblkfjchjbaaGreatDoor
open Go.RowKit
theorem qzc{w:World}{base:Nat}{e:TypeId}{v:Value}{n:Nat}{xs:List Value}(h:w.ownsRow base e 1 v n xs):
 (v= .slice none 0 0∧n=0)∨∃ad cap,v= .slice (some ad) n cap∧∀j u,xs[j]? =some u→w.cell? (ad.add j)=some u:=by
 rcases h.2 with⟨rfl,rfl⟩|⟨g,cap,cur,rfl,hg,hh,hn,hm,r1,r2⟩
 ·exact .inl ⟨rfl,rfl⟩
 ·exact .inr ⟨⟨g,0,none⟩,cap,rfl,h.cells rfl⟩
theorem qyd(l:List (List UInt8)):∀u∈strs l,u.oneCell'=true:=by
 intro u hu;simp only[strs,List.mem_map] at hu;obtain⟨x,_,rfl⟩:=hu;rfl
theorem qye(l:List (List UInt8)):(strs l).length=l.length*1:=by simp[strs]
def RelR(w0:World)(L:List (List UInt8))(T:Option (List (List UInt8)))(v i:Value)(wr:World):Prop:=
 ∃(out:List (List UInt8)) (k:Nat),i= .int .i64 k∧k≤L.length∧T=qer out (L.drop k)∧qb2 out≤qb2 (L.take k)∧
  wr.ownsRow w0.heap.size 9 1 v out.length (strs out)∧Below w0.heap.size w0 wr
end Go.Proofs.YtikdblkfjchjbaaGreatDoor
