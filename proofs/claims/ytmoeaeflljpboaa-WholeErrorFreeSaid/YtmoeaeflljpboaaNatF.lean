/- Plain law: what the functions of naturals answer: left, right, byWord, take, back. Conditions: the words are words, the lists are not longer than memory. -/
import Derived.Test.YtmoeaeflljpboaaNatE
import Derived.Test.YtmoeaeflljpboaaNatR
namespace Go.Proofs.Ytmoeaeflljpboaa.X
open Go Go.Rex
set_option linter.unusedVariables false

theorem val_drop_set (s : List Int) {i : Nat} (h : i < s.length) (x : Int) : val ((s.set i x).drop i) = x.toNat + 18446744073709551616 * val (s.drop (i + 1)) := by
  rw [drop_val (s.set i x) (by simpa using h), Rex.getD_set_self s h]
  congr 2
  rw [List.drop_set_of_lt (by omega)]
/-! ### left -/
/-! ### byWord -/
end Go.Proofs.Ytmoeaeflljpboaa.X
