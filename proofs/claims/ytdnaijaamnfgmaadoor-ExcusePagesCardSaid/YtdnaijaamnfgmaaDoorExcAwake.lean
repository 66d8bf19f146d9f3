/- The law's own awake. -/
import Derived.Test.YtdnaijaamnfgmaaDoorExcWake
import Derived.Test.YtdnaijaamnfgmaaDoorHexaTab
set_option linter.unusedSimpArgs false
set_option linter.unusedVariables false
set_option linter.unusedSectionVars false
namespace Go.Proofs.YtdnaijaamnfgmaaDoor
open Go.RowKit
namespace Exc
open ExcP HexP
def uL : List UInt8 := [85, 78, 75, 78, 79, 87, 78]
def aL : List UInt8 := [97, 34, 98]
def usL : List UInt8 := [85, 78, 83, 85, 80, 80, 79, 82, 84, 69, 68]
theorem body_ua : bodyL uL aL = [123, 34, 101, 114, 114, 111, 114, 115, 34, 58, 91, 123, 34, 99, 111, 100, 101, 34, 58, 34, 85, 78, 75, 78, 79, 87, 78, 34, 44, 34, 109, 101, 115, 115, 97, 103, 101, 34, 58, 34, 97, 92, 34, 98, 34, 125, 93, 125, 10] := by decide +kernel
theorem of_ua : ofV (bodyL uL aL) = .tuple #[.string ⟨uL.toArray⟩, .string ⟨aL.toArray⟩, .int .i64 0] := by unfold ofV; rw [of_body]
theorem unq_a : unqV [34, 97] = .tuple #[.string ⟨#[]⟩, .int .i64 3] := by
  have : unquoteP [34, 97] = none := by decide +kernel
  unfold unqV; rw [this]
set_option maxRecDepth 100000 in
set_option maxHeartbeats 4000000 in
theorem awake_any (w : World) (ht : Hex.Tab10 w) : Calls Tryd.prog 6 #[] w fun e w' => e = .returned (.bool true) ∧ Reg.Ext w w' := by
  have HT := Lib.hid ht
  clear ht
  have HB1 := Lib.hid (body_any ⟨uL.toArray⟩ ⟨aL.toArray⟩)
  have HB2 := Lib.hid (body_any ⟨usL.toArray⟩ ⟨#[120]⟩)
  go_enter Tryd.func6, Tryd.ntmps6
  go_wp2_with fail
  refine (HB1.out w (by decide) (by decide)).mono ?_
  rintro e w1 ⟨rfl, x1⟩
  have HX1 := Lib.hid x1
  clear x1 HB1
  obtain ⟨S, hS⟩ : ∃ S : ByteArray, S = ⟨(bodyL uL aL).toArray⟩ := ⟨_, rfl⟩
  have hSl : S.data.toList = bodyL uL aL := by rw [hS]
  have hSs : S.size ≤ 1000 := by rw [← len_data, hSl, body_ua]; decide
  rw [← hS]
  have tS := test_lit S [123, 34, 101, 114, 114, 111, 114, 115, 34, 58, 91, 123, 34, 99, 111, 100, 101, 34, 58, 34, 85, 78, 75, 78, 79, 87, 78, 34, 44, 34, 109, 101, 115, 115, 97, 103, 101, 34, 58, 34, 97, 92, 34, 98, 34, 125, 93, 125, 10]
  rw [decide_eq_true (hSl.trans body_ua)] at tS
  have HSl := Lib.hid hSl
  clear hS hSl
  go_wp2_with fail
  refine (of_any S w1 (by omega)).mono ?_
  rintro e w2 ⟨rfl, x2⟩
  rw [HSl.out, of_ua]
  have HX2 := Lib.hid (HX1.out.trans x2)
  clear x2
  go_wp2_with fail
  refine (unquote_any ⟨#[34, 97]⟩ w2 (by decide)).mono ?_
  rintro e w3 ⟨rfl, x3⟩
  rw [show (⟨#[34, 97]⟩ : ByteArray).data.toList = [34, 97] from rfl, unq_a]
  have HX3 := Lib.hid (HX2.out.trans x3)
  clear x3
  go_wp2_with fail
  refine (page_any 405 0 ⟨#[120]⟩ w3 (by decide) (HT.out.ext HX3.out)).mono ?_
  rintro e w4 ⟨g, cap, rfl, hrd, x4⟩
  have HX4 := Lib.hid (HX3.out.trans x4)
  clear x4
  have hlen : (pageF 405 0 ⟨#[120]⟩).length = 3 := rfl
  obtain ⟨ad, ea, -, -, q2⟩ := hrd.at_ 2 (by rw [hlen]; omega)
  injection ea with ea
  subst ea
  rw [add_plain, Nat.zero_add, show (pageF 405 0 ⟨#[120]⟩)[2].2 = ⟨#[71, 69, 84, 44, 32, 72, 69, 65, 68]⟩ from rfl] at q2
  rw [hlen]
  clear hrd hlen
  have hbod : bodyB 405 0 ⟨#[120]⟩ = ⟨(bodyL usL [120]).toArray⟩ := rfl
  rw [hbod]
  clear hbod
  have HB3 : Hid (∀ w, Calls Tryd.prog 15 #[.string ⟨usL.toArray⟩, .string ⟨#[120]⟩] w fun e w' => e = .returned (.string ⟨(bodyL usL [120]).toArray⟩) ∧ Reg.Ext w w') := fun w => by
    refine (HB2.out w (by decide) (by decide)).mono ?_
    rintro e w' ⟨rfl, x⟩
    exact ⟨rfl, x⟩
  clear HB2
  generalize (⟨(bodyL usL [120]).toArray⟩ : ByteArray) = B2 at *
  go_wp2_with fail
  refine (HB3.out w4).mono ?_
  rintro e w5 ⟨rfl, x5⟩
  have HX5 := Lib.hid (HX4.out.trans x5)
  clear x5
  go_wp2_with fail
  go_ret
  exact ⟨rfl, HX5.out⟩
end Exc
end Go.Proofs.YtdnaijaamnfgmaaDoor
