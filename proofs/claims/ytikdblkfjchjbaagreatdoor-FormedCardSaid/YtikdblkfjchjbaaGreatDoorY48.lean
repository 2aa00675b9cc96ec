import Derived.Test.YtikdblkfjchjbaaGreatDoorRows
import Derived.Deep.Fields
import Derived.Test.YtikdblkfjchjbaaGreatDoorY01
set_option linter.unusedVariables false
set_option linter.unusedSimpArgs false
set_option maxHeartbeats 16000000
set_option maxRecDepth 100000
namespace Go.Proofs.YtikdblkfjchjbaaGreatDoor
open Go.RowKit Go.ChangeShapes Go.WideShapes Go.Deep
variable{H:Type}
theorem q45{α:Type}(n:Nat)(Q:Nat→α→Prop)(h:∀i,i<n→∃c,Q i c):∃l:List α,l.length=n∧∀i (hi:i<l.length),Q i l[i]:=by
 induction n with
 |zero=>exact⟨[],rfl,fun i hi=>by simp at hi⟩
 |succ n ih=>
  obtain⟨l,hl,hQ⟩:=ih (fun i hi=>h i (by omega));obtain⟨c,hc⟩:=h n (by omega);refine⟨l++[c],by simp[hl],fun i hi=>?_⟩;by_cases e:i<l.length
  ·rw[List.getElem_append_left e];exact hQ i e
  ·obtain rfl:i=l.length:=by rw[List.length_append,List.length_singleton] at hi;omega
   rw[List.getElem_append_right (Nat.le_refl _)];simp only[Nat.sub_self,List.getElem_cons_zero];rw[hl];exact hc
theorem q3x(d:DataW H):0<Rows.uptoBulk d:=by
 cases d with
 |lit x=>cases x <;> simp[Rows.uptoBulk]
 |_=>simp[Rows.uptoBulk]
theorem que(l:List (DataW H)):l.length≤Rows.uptoBulkAll l∧∀d∈l,Rows.uptoBulk d≤Rows.uptoBulkAll l:=by
 induction l with
 |nil=>exact⟨by simp,fun d hd=>by simp at hd⟩
 |cons a r ih=>
  have hp:=q3x a;refine⟨?_,fun d hd=>?_⟩
  ·have:=ih.1;simp only[List.length_cons,Rows.uptoBulkAll];omega
  ·simp only[Rows.uptoBulkAll]
   rcases List.mem_cons.1 hd with rfl|hd
   ·omega
   ·have:=ih.2 d hd;omega
section
variable {H:Type} {enc:TypeId×Value→H} {P:Program} {w:World}
end
end Go.Proofs.YtikdblkfjchjbaaGreatDoor
