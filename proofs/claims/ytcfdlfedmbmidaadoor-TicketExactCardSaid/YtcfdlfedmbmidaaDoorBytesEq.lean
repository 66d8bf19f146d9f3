/- Two arrays of bytes are compared. No program in sight. -/
import Derived.Test.YtcfdlfedmbmidaaDoorWords
import Derived.ChangeKeysEq
set_option linter.unusedSimpArgs false
set_option linter.unusedVariables false
set_option linter.unusedSectionVars false
namespace Go.Proofs.YtcfdlfedmbmidaaDoor
open Go Go.RowKit
section
variable {P : Program} (w : World)
theorem run_eqItems_bytes (d : Nat) {e : TypeId} (he : P.underlying e = some (.int .u8)) (hc : P.cellsOf e = 1) : ∀ (m k : Nat) (a b : List UInt8), a.length = k + m → b.length = k + m →
    (Op.eqItems (d + 1) e (P.cellsOf e) (a.map byteV).toArray (b.map byteV).toArray (List.range' k m)).run P w = .ok (a.drop k == b.drop k) w
  | 0, k, a, b, ha, hb => by
    rw [List.drop_of_length_le (by omega), List.drop_of_length_le (by omega)]
    simp [Op.eqItems]
  | m + 1, k, a, b, ha, hb => by
    have hp : P.plainKey e = true := by simp [Program.plainKey, he]
    have pa := run_part_plain (P := P) w hp (xs := (a.map byteV).toArray) (off := k) (v := byteV (a[k]'(by omega))) (by simp [show k < a.length by omega])
    have pb := run_part_plain (P := P) w hp (xs := (b.map byteV).toArray) (off := k) (v := byteV (b[k]'(by omega))) (by simp [show k < b.length by omega])
    have ih := run_eqItems_bytes d he hc m (k + 1) a b (by omega) (by omega)
    have da : a.drop k = a[k]'(by omega) :: a.drop (k + 1) := List.drop_eq_getElem_cons (by omega)
    have db : b.drop k = b[k]'(by omega) :: b.drop (k + 1) := List.drop_eq_getElem_cons (by omega)
    have hq : (Op.equalIn (d + 1) e (byteV (a[k]'(by omega))) (byteV (b[k]'(by omega)))).run P w = .ok (a[k]'(by omega) == b[k]'(by omega)) w := by
      unfold byteV
      rw [run_equalIn_int w d e .u8 .u8 _ _ he]
      congr 1
      rw [Bool.eq_iff_iff, beq_iff_eq, beq_iff_eq]
      constructor
      · intro h; exact UInt8.toNat_inj.1 (by omega)
      · intro h; rw [h]
    rw [hc] at ih
    rw [List.range'_succ, da, db]
    simp only [Op.eqItems, Sem.run_bind, hc, Nat.mul_one, pa, pb, hq, Result.andThen_ok]
    rw [List.cons_beq_cons]
    cases hh : (a[k]'(by omega) == b[k]'(by omega))
    · simp
    · simpa using ih
theorem run_equal_bytes (d : Nat) {t e : TypeId} {n : Nat} {i : TypeInfo} (ht : P.underlying t = some (.array n e)) (hi : P.info? e = some i) (he : P.underlying e = some (.int .u8)) (hc : P.cellsOf e = 1) (a b : List UInt8) (ha : a.length = n) (hb : b.length = n) :
    (Op.equalIn (d + 2) t (.agg (a.map byteV).toArray) (.agg (b.map byteV).toArray)).run P w = .ok (a == b) w := by
  rw [run_equalIn_array w (d + 1) _ _ ht hi, List.range_eq_range']
  have := run_eqItems_bytes (P := P) w d he hc n 0 a b (by omega) (by omega)
  simpa using this
end
end Go.Proofs.YtcfdlfedmbmidaaDoor
