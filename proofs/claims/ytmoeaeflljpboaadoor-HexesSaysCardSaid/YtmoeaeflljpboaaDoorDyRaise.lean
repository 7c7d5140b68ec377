/- Plain law: a word is put in at a place, without a shift. No conditions beyond those that it states. -/
import Derived.Test.YtmoeaeflljpboaaDoorNatR
namespace Go.Proofs.YtmoeaeflljpboaaDoor.X
open Go Go.Rex
set_option linter.unusedVariables false

theorem left_set0 {p : List Int} {w i c lo x T T' : Nat} (l1 : w + i < p.length) (ec : p.getD (w + i) 0 = (c : Int))
    (hv : val p = 18446744073709551616 ^ w * (T * 1)) (e1 : T' = T + 18446744073709551616 ^ i * x) (h3 : lo = x) :
    val (p.set (w + i) ((c + lo : Nat) : Int)) = 18446744073709551616 ^ w * (T' * 1) := by
  have v1 := set_val p l1 ((c + lo : Nat) : Int)
  rw [ec, Int.toNat_natCast, Int.toNat_natCast, pow_split] at v1
  rw [e1, h3] at *
  have k1 : 18446744073709551616 ^ w * ((T + 18446744073709551616 ^ i * x) * 1) = 18446744073709551616 ^ w * (T * 1) + 18446744073709551616 ^ w * 18446744073709551616 ^ i * x := by grind
  have k2 : 18446744073709551616 ^ w * 18446744073709551616 ^ i * (c + x) = 18446744073709551616 ^ w * 18446744073709551616 ^ i * c + 18446744073709551616 ^ w * 18446744073709551616 ^ i * x := Nat.mul_add ..
  rw [k1]
  generalize 18446744073709551616 ^ w * 18446744073709551616 ^ i * c = y at *
  omega
end Go.Proofs.YtmoeaeflljpboaaDoor.X
