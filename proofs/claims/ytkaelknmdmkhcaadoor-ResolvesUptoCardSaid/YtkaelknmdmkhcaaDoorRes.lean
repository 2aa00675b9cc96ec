/-
  layers.Resolve, plain.Resolve, and the law Resolves.
-/
import Derived.Test.YtkaelknmdmkhcaaDoorOwnD
import Derived.Test.YtkaelknmdmkhcaaDoorTell
namespace Go.Proofs.YtkaelknmdmkhcaaDoor
open Go.RowKit

theorem pathP_of (s : List UInt8) (w : World) (hw : Std w) (hs : s.length ≤ 4294967280) (b : Bool) (hb : pathB s = b) :
    Calls Tryd.prog 26 #[.string (S s)] w fun e w' => e = .returned (.bool b) ∧ Below w.heap.size w w' := hb ▸ pathP_any s w hw hs

/-- what layers.Resolve answers: the path, or the error's number -/
def resP (work text : List UInt8) : Option (List UInt8) :=
  if pathB work = true then match resB work text with
    | none => none
    | some out => if pathB (joinB out) = true then some (joinB out) else none
  else none
def outL (work text : List UInt8) : Value := match resP work text with
  | some p => .tuple #[.string (S p), .nilIface]
  | none => .tuple #[.string (S []), .iface 22 (.int .i64 1)]
def outPl (work text : List UInt8) : Value := match resP work text with
  | some p => .tuple #[.string (S p), .int .i64 0, .int .i64 (-1)]
  | none => .tuple #[.string (S []), .int .i64 1, .int .i64 (-1)]
theorem outL_none {a b : List UInt8} (h : resP a b = none) : outL a b = .tuple #[.string (S []), .iface 22 (.int .i64 1)] := by rw [outL, h]
theorem outL_some {a b p : List UInt8} (h : resP a b = some p) : outL a b = .tuple #[.string (S p), .nilIface] := by rw [outL, h]
theorem outPl_none {a b : List UInt8} (h : resP a b = none) : outPl a b = .tuple #[.string (S []), .int .i64 1, .int .i64 (-1)] := by rw [outPl, h]
theorem outPl_some {a b p : List UInt8} (h : resP a b = some p) : outPl a b = .tuple #[.string (S p), .int .i64 0, .int .i64 (-1)] := by rw [outPl, h]

set_option maxHeartbeats 1000000 in
theorem resolveL_any (work text : List UInt8) (w : World) (hw : Std w) (hs : work.length + text.length ≤ 2000000000) :
    Calls Tryd.prog 11 #[.string (S work), .string (S text)] w fun e w' =>
      e = .returned (outL work text) ∧ Below w.heap.size w w' := by
  have HS := Lib.hid hw
  clear hw
  cases hP : pathB work
  · have X := Lib.hid (show resP work text = none by simp [resP, hP])
    have HP := Lib.hid hP
    clear hP
    go_enter Tryd.func11, Tryd.ntmps11
    go_wp2_with (go_at_call 26; refine (pathP_of work _ HS.out (by omega) _ HP.out).mono ?_; rintro e w1 ⟨rfl, hb1⟩)
    go_ret2
    exact ⟨by rw [outL_none X.out]; rfl, hb1⟩
  · cases hR : resB work text with
    | none =>
      have X := Lib.hid (show resP work text = none by simp [resP, hR])
      have HP := Lib.hid hP
      have HR := Lib.hid (resOutP_none hR)
      clear hP hR
      go_enter Tryd.func11, Tryd.ntmps11
      go_wp2_with (first | (go_at_call 26; refine (pathP_of work _ HS.out (by omega) _ HP.out).mono ?_; rintro e w1 ⟨rfl, hb1⟩) | (go_at_call 27; refine (resolveT_any work text _ (HS.out.below hb1) hs).mono ?_; rintro e w2 ⟨rfl, hb2⟩; rw [HR.out]))
      go_ret2
      exact ⟨by rw [outL_none X.out]; rfl, hb1.trans (hb2.mono hb1.size)⟩
    | some out =>
      cases hQ : pathB (joinB out)
      · have X := Lib.hid (show resP work text = none by simp [resP, hR, hQ])
        have HP := Lib.hid hP
        have HR := Lib.hid (show resOutP work text = .tuple #[.string (S (joinB out)), .bool false] by rw [resOutP_some hR, hQ])
        clear hP hR hQ
        go_enter Tryd.func11, Tryd.ntmps11
        go_wp2_with (first | (go_at_call 26; refine (pathP_of work _ HS.out (by omega) _ HP.out).mono ?_; rintro e w1 ⟨rfl, hb1⟩) | (go_at_call 27; refine (resolveT_any work text _ (HS.out.below hb1) hs).mono ?_; rintro e w2 ⟨rfl, hb2⟩; rw [HR.out]))
        go_ret2
        exact ⟨by rw [outL_none X.out]; rfl, hb1.trans (hb2.mono hb1.size)⟩
      · have X := Lib.hid (show resP work text = some (joinB out) by simp [resP, hR, hQ, hP])
        have HP := Lib.hid hP
        have HR := Lib.hid (show resOutP work text = .tuple #[.string (S (joinB out)), .bool true] by rw [resOutP_some hR, hQ])
        clear hP hR hQ
        go_enter Tryd.func11, Tryd.ntmps11
        go_wp2_with (first | (go_at_call 26; refine (pathP_of work _ HS.out (by omega) _ HP.out).mono ?_; rintro e w1 ⟨rfl, hb1⟩) | (go_at_call 27; refine (resolveT_any work text _ (HS.out.below hb1) hs).mono ?_; rintro e w2 ⟨rfl, hb2⟩; rw [HR.out]))
        go_ret2
        exact ⟨by rw [outL_some X.out]; rfl, hb1.trans (hb2.mono hb1.size)⟩

theorem resolvePl_any (work text : List UInt8) (w : World) (hw : Std w) (hg : ErrT w) (hs : work.length + text.length ≤ 2000000000) :
    Calls Tryd.prog 5 #[.string (S work), .string (S text)] w fun e w' => e = .returned (outPl work text) ∧ Below w.heap.size w w' := by
  have HS := Lib.hid hw
  have HG := Lib.hid hg
  clear hw hg
  cases hR : resP work text with
  | none =>
    have X := Lib.hid (outPl_none hR)
    have Y := Lib.hid (outL_none hR)
    clear hR
    go_enter Tryd.func5, Tryd.ntmps5
    go_wp2_with (first | (go_at_call 11; refine (resolveL_any work text _ HS.out hs).mono ?_; rintro e w1 ⟨rfl, hb1⟩; rw [Y.out]) | (go_at_call 12; refine (tell_errno 1 _ (HG.out.below hb1)).mono ?_; rintro e w2 ⟨rfl, hb2⟩))
    go_ret3
    exact ⟨by rw [X.out]; rfl, hb1.trans (hb2.mono hb1.size)⟩
  | some p =>
    have X := Lib.hid (outPl_some hR)
    have Y := Lib.hid (outL_some hR)
    clear hR
    go_enter Tryd.func5, Tryd.ntmps5
    go_wp2_with (first | (go_at_call 11; refine (resolveL_any work text _ HS.out hs).mono ?_; rintro e w1 ⟨rfl, hb1⟩; rw [Y.out]) | (go_at_call 12; refine (tell_nil _).mono ?_; rintro e w2 ⟨rfl, hb2⟩))
    go_ret3
    exact ⟨by rw [X.out]; rfl, hb1.trans (hb2.mono hb1.size)⟩

theorem known : resP [97, 47, 98] [46, 46, 47, 99, 47, 47, 46, 47, 100] = some [97, 47, 99, 47, 100] := by decide +kernel

set_option maxHeartbeats 2000000 in
theorem resolves_any (work text : List UInt8) (w : World) (hw : Std w) (hg : ErrT w) (hs : work.length + text.length ≤ 2000000000) :
    Calls Tryd.prog 3 #[.string (S work), .string (S text)] w fun e w' => e = .returned (.bool true) ∧ Below w.heap.size w w' := by
  have HS := Lib.hid hw
  have HG := Lib.hid hg
  have HK := Lib.hid (outPl_some known)
  clear hw hg
  have all : (∃ p, outPl work text = .tuple #[.string (S p), .int .i64 0, .int .i64 (-1)] ∧ pathB work = true ∧ resOutR work text = .tuple #[.string (S p), .bool true]) ∨
      (outPl work text = .tuple #[.string (S []), .int .i64 1, .int .i64 (-1)] ∧ (pathB work = false ∧ (∃ p b, resOutR work text = .tuple #[.string (S p), .bool b]) ∨ pathB work = true ∧ ∃ p, resOutR work text = .tuple #[.string (S p), .bool false])) := by
    have any : ∃ p b, resOutR work text = .tuple #[.string (S p), .bool b] := by
      unfold resOutR; split
      · exact ⟨_, _, rfl⟩
      · split <;> exact ⟨_, _, rfl⟩
    cases hP : pathB work
    · exact .inr ⟨outPl_none (by simp [resP, hP]), .inl ⟨rfl, any⟩⟩
    · cases hR : resB work text with
      | none => exact .inr ⟨outPl_none (by simp [resP, hR]), .inr ⟨rfl, _, resOutR_none hR⟩⟩
      | some out =>
        cases hQ : pathB (joinB out)
        · exact .inr ⟨outPl_none (by simp [resP, hR, hQ]), .inr ⟨rfl, _, resOutR_no hR hQ⟩⟩
        · exact .inl ⟨_, outPl_some (by simp [resP, hP, hR, hQ]), rfl, resOutR_yes hR hQ⟩
  rcases all with ⟨p, h1, h2, h3⟩ | ⟨h1, ⟨h2, p, b, h3⟩ | ⟨h2, p, h3⟩⟩
  all_goals
    have H1 := Lib.hid h1
    have H2 := Lib.hid h2
    have H3 := Lib.hid h3
    clear h1 h2 h3
    go_enter Tryd.func3, Tryd.ntmps3
    go_wp2_with fail
    refine (resolvePl_any [97, 47, 98] [46, 46, 47, 99, 47, 47, 46, 47, 100] _ HS.out HG.out (by decide)).mono ?_
    rintro e w1 ⟨rfl, hb1⟩
    rw [HK.out]
    go_wp2_with fail
    refine (resolvePl_any work text _ (HS.out.below hb1) (HG.out.below hb1) hs).mono ?_
    rintro e w2 ⟨rfl, hb2⟩
    rw [H1.out]
    go_wp2_with (first | (go_at_call 6; refine (resolveR_any work text _ hs).mono ?_; rintro e w3 ⟨rfl, hb3⟩; rw [H3.out]) | (go_at_call 7; refine (isPath_any work _ (by omega)).mono ?_; rintro e w4 ⟨rfl, hb4⟩; rw [H2.out]))
    go_ret
    have hb12 := hb1.trans (hb2.mono hb1.size)
    have hb13 := hb12.trans (hb3.mono hb12.size)
    exact ⟨by simp, hb13.trans (hb4.mono hb13.size)⟩
end Go.Proofs.YtkaelknmdmkhcaaDoor
