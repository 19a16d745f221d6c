/- A loop of few rounds, taken round by round. -/
import Derived.Test.YtenfgknhongaaaaHl11
import Derived.LoopN
set_option linter.unusedVariables false
set_option linter.unusedSimpArgs false
namespace Go.Proofs.Ytenfgknhongaaaa.Hl
open Go
/-- At most n rounds of a loop. -/
def wpR (P : Program) (M : List Nat) (c : Code) (Q : Exit → St → Prop) : Nat → St → Prop
  | 0, _ => False
  | n + 1, s => wpC P M c (thenA (wpR P M c Q n) Q) s
theorem AW.rounds {P : Program} {M : List Nat} {c : Code} {Q : Exit → St → Prop} (n : Nat) {s : St} (h : wpR P M c Q n s) : AW P (.loop c) Q s := by
  intro B w F a hr
  refine wp_loop_rounds n ?_
  induction n generalizing s w F a with
  | zero => exact h.elim
  | succ n ih =>
    refine wp_mono (wpC_sound h B w F a hr) ?_
    rintro e a' w' ⟨s', F', r, q⟩
    cases e with
    | normal => exact ih q w' F' a' r
    | _ => exact ⟨s', F', r, q⟩
attribute [go_sem] wpR
end Go.Proofs.Ytenfgknhongaaaa.Hl
