/- A body's record: slip.framed; slip.within, slip.of. -/
import Derived.Test.YtbeghdoffiidoaaDoorSlipPage
import Derived.Test.YtbeghdoffiidoaaDoorCrcWalks
set_option linter.unusedSimpArgs false
set_option linter.unusedVariables false
set_option linter.unusedSectionVars false
namespace Go.Proofs.YtbeghdoffiidoaaDoor
open Go.RowKit
namespace Slp
open CrcP (more tail)
def headB (n : Nat) : List UInt8 := [UInt8.ofNat (n / 256 % 256), UInt8.ofNat (n % 256)]
def frame (l : List UInt8) : List UInt8 := headB l.length ++ tail (more 0 (headB l.length ++ l)) ++ l
theorem lst (l : List UInt8) : (⟨l.toArray⟩ : ByteArray).data.toList = l := by simp
theorem siz (l : List UInt8) : (⟨l.toArray⟩ : ByteArray).size = l.length := by rw [← len_data, lst]
theorem of_pair (a b : ByteArray) : Crc.ofS [a, b] = more 0 (a.data.toList ++ b.data.toList) := by
  simp [Crc.ofS, CrcP.ofParts, CrcP.more_append]
set_option maxHeartbeats 2000000 in
theorem framed_any (s : ByteArray) (w : World) (hs : s.size ≤ 1048576) (hT : Crc.Tab w) :
    Calls Tryd.prog 23 #[.string s] w fun e w' => e = .returned (.string ⟨(frame s.data.toList).toArray⟩) ∧ Reg.Ext w w' := by
  have HT := Lib.hid hT
  clear hT
  obtain ⟨h0, hh0⟩ : ∃ h, h = headB s.size := ⟨_, rfl⟩
  have hx1 := Reg.Ext.alloc w (Obj.cells #[Value.int .u8 ((s.size : Int) / 256 % 256), Value.int .u8 ((s.size : Int) % 256)] 5)
  have hk1 := Blk.new w 5 #[Value.int .u8 ((s.size : Int) / 256 % 256), Value.int .u8 ((s.size : Int) % 256)]
  have ha : (UInt8.ofNat (s.size / 256 % 256)).toNat = s.size / 256 % 256 := UInt8.toNat_ofNat_of_lt' (by show _ < 256; omega)
  have hb : (UInt8.ofNat (s.size % 256)).toNat = s.size % 256 := UInt8.toNat_ofNat_of_lt' (by show _ < 256; omega)
  have hcv := conv_bytes (P := Tryd.prog) (w.alloc (Obj.cells #[Value.int .u8 ((s.size : Int) / 256 % 256), Value.int .u8 ((s.size : Int) % 256)] 5)) 42 9 5 Tryd.underlying42 Tryd.underlying5 Tryd.underlying9 w.heap.size 0 2 2 h0 (by rw [hh0]; rfl) (by
    intro j hj
    rw [hh0] at hj
    subst hh0
    match j, hj with
    | 0, _ => rw [hk1.cell]; simp [headB, byteV, ha]
    | 1, _ => rw [hk1.cell]; simp [headB, byteV, hb])
  have HX1 := Lib.hid hx1
  clear hx1 hk1 ha hb
  go_enter Tryd.func23, Tryd.ntmps23
  go_wp2_with fail
  clear hcv
  have hs1 : (w.alloc (Obj.cells #[Value.int .u8 ((s.size : Int) / 256 % 256), Value.int .u8 ((s.size : Int) % 256)] 5)).heap.size = w.heap.size + 1 := Array.size_push _
  generalize w.alloc (Obj.cells #[Value.int .u8 ((s.size : Int) / 256 % 256), Value.int .u8 ((s.size : Int) % 256)] 5) = w1 at *
  obtain ⟨H0, hH0⟩ : ∃ H0 : ByteArray, H0 = ⟨(headB s.size).toArray⟩ := ⟨_, rfl⟩
  have hHs : H0.size = 2 := by rw [hH0, siz]; rfl
  have HHL := Lib.hid (show H0.data.toList = headB s.size by rw [hH0])
  rw [← hH0]
  clear hH0 hh0
  have hr := Rd.new w1 9 #[strV H0, strV s]
  rw [hs1] at hr
  have HX2 := Lib.hid (HX1.out.trans (Reg.Ext.alloc w1 (Obj.cells #[Value.string H0, Value.string s] 9)))
  have hT2 := HT.out.below HX2.out
  clear HX1 hs1
  have hv := of_pair H0 s
  have hlt : more 0 (H0.data.toList ++ s.data.toList) < 4294967296 := CrcP.more_lt _ _
  refine (Crc.of_any _ 2 2 [H0, s] _ rfl (by decide) hr (fun x hx => by
    rcases List.mem_cons.1 hx with rfl | hx
    · exact maxLen_of (by omega)
    · rw [List.mem_singleton.1 hx]; exact maxLen_of (by omega)) hT2).mono ?_
  rintro e w2 ⟨rfl, rfl⟩
  rw [hv]
  have HV : Hid (frame s.data.toList = H0.data.toList ++ tail (more 0 (H0.data.toList ++ s.data.toList)) ++ s.data.toList) := by
    show frame _ = _
    unfold frame
    rw [len_data, HHL.out]
  generalize more 0 (H0.data.toList ++ s.data.toList) = m at *
  clear hr hv HT hT2
  go_wp2_with fail
  refine (Crc.tail_any m _ hlt).mono ?_
  rintro e w3 ⟨rfl, x3⟩
  have HX3 := Lib.hid (HX2.out.trans x3)
  clear x3 HX2
  obtain ⟨T4, hT4⟩ : ∃ T4 : ByteArray, T4 = ⟨(tail m).toArray⟩ := ⟨_, rfl⟩
  have hTs : T4.size = 4 := by rw [hT4, siz]; rfl
  have HTL := Lib.hid (show T4.data.toList = tail m by rw [hT4])
  rw [← hT4]
  have HW : Hid ((⟨(frame s.data.toList).toArray⟩ : ByteArray) = H0 ++ T4 ++ s) := by
    show _ = _
    exact ba_ext (by rw [lst, HV.out, ← HTL.out]; simp)
  clear hT4
  go_wp2_with fail
  go_ret
  exact ⟨by rw [HW.out]; rfl, HX3.out⟩
end Slp
end Go.Proofs.YtbeghdoffiidoaaDoor
