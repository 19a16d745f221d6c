/- The reference decodes authenticators; the law on what is decoded. -/
import Derived.Test.YtenfgknhongaaaaFn25
set_option linter.unusedVariables false
set_option linter.unusedSimpArgs false
namespace Go.Proofs.Ytenfgknhongaaaa.Fn
open Go Hl Sp Ty
set_option maxRecDepth 100000
/-- What is decoded: an authenticator and an error. -/
theorem DecS.form {b : List UInt8} {little : Bool} {d : AV} (h : DecS b little d) : ∃ n i r c t m e, d = .tup [authA n i r c t m, .raw (.int .i64 e)] := by
  rcases h with ⟨n, i, r, c, t, m, _, rfl⟩ | ⟨_, rfl⟩
  · exact ⟨_, _, _, _, _, _, _, rfl⟩
  · exact ⟨_, _, _, _, _, _, _, rfl⟩
end Go.Proofs.Ytenfgknhongaaaa.Fn
