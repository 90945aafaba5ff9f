/- A part of the proof: Sa9. -/
import Derived.Test.YtmpbhgofllbejaaSa8
import Derived.Shelf.Spec.BitsCarry
set_option linter.unusedVariables false
set_option linter.unusedSimpArgs false
set_option linter.unusedSimpArgs false
set_option linter.unusedVariables false
namespace Go.Ax
open Go Go.Proofs
set_option maxRecDepth 100000
theorem argsRep_vals {w : World} {I : Nat → Prop} : ∀ {xs vals : List Value}, ArgsRep w I (xs.map fun x => (false, [D.v x])) vals → vals = xs
  | [], [], _ => rfl
  | [], _ :: _, h => h.elim
  | _ :: _, [], h => h.elim
  | x :: xs, v :: vals, h => by
    obtain ⟨⟨d, h1, h2⟩, h3⟩ := h
    simp only [List.cons.injEq, and_true] at h1
    subst h1
    rw [argsRep_vals h3, h2.v_inv.1]
/-- A function without a body, whose results are plain values. -/
theorem fspec_plain {P : Program} {f : FuncId} {xs vs : List Value} (hvs : ∀ v ∈ vs, v.oneCell' = true) (hl : vs.length ≠ 1) (h : ∀ w, (callFunc f xs.toArray).run P w = .ok (.value (.tuple vs.toArray)) w) :
    FSpec P f (xs.map fun x => (false, [D.v x])) (vs.map fun v => .one (.d (.v v))) := by
  intro w I vals hI hrep
  have hv := argsRep_vals hrep
  subst hv
  refine .inr ⟨_, w, h w, Fr.refl _ _, I, fun _ e => e, fun b e => ⟨hI b e, .inl e⟩, ?_, ?_, ?_⟩
  all_goals
    have hres : resT (vs.map fun v => Comp.one (.d (.v v))) = .tup (vs.map fun v => .one (.d (.v v))) := by
      unfold resT
      split <;> first
        | rfl
        | (rename_i e; exact absurd (by simpa using congrArg List.length e) hl)
    rw [hres]
  · refine ⟨vs.toArray, rfl, by simp, fun j c hj => ?_⟩
    rw [List.getElem?_map] at hj
    cases e : vs[j]? with
    | none => rw [e] at hj; cases hj
    | some v =>
      rw [e] at hj
      simp only [Option.map_some, Option.some.injEq] at hj
      subst hj
      have : vs.toArray.getD j undef = v := by simp [Array.getD_eq_getD_getElem?, e]
      rw [this]
      exact RepD.v v (hvs v (List.mem_of_getElem? e))
  · intro i b hb
    unfold T.blocks at hb
    dsimp only at hb
    split at hb
    · rename_i hc hv2
      rw [List.getElem?_map] at hc
      cases e : vs[i]? with
      | none => rw [e] at hc; cases hc
      | some v => rw [e] at hc; cases hc
    · cases hb
  · intro i j b hb
    unfold T.blocks at hb
    dsimp only at hb
    split at hb
    · rename_i hc hv2
      rw [List.getElem?_map] at hc
      cases e : vs[i]? with
      | none => rw [e] at hc; cases hc
      | some v => rw [e] at hc; cases hc
    · cases hb
theorem add64_spec (x y c : Nat) (hc : c ≤ 1) : FSpec Try.prog 83 [(false, [.v (.int .u64 (x : Int))]), (false, [.v (.int .u64 (y : Int))]), (false, [.v (.int .u64 (c : Int))])]
    [.one (.d (.v (.int .u64 (((x + y + c) % 18446744073709551616 : Nat) : Int)))), .one (.d (.v (.int .u64 (((x + y + c) / 18446744073709551616 : Nat) : Int))))] := by
  refine fspec_plain (xs := [.int .u64 x, .int .u64 y, .int .u64 c]) (vs := [.int .u64 (((x + y + c) % 18446744073709551616 : Nat) : Int), .int .u64 (((x + y + c) / 18446744073709551616 : Nat) : Int)]) (by simp [Value.oneCell']) (by simp) (fun w => ?_)
  show (callFunc 83 #[.int .u64 x, .int .u64 y, .int .u64 c]).run Try.prog w = _
  rw [run_callFunc_extern Try.func83 (by kernel_rfl) (by kernel_rfl) (by kernel_rfl) (e := add64Entry) (by kernel_rfl), run_add64 x y c (by omega) (by omega) (by omega) (by omega)]
  simp only [Result.andThen]
  congr 5 <;> omega
end Go.Ax
