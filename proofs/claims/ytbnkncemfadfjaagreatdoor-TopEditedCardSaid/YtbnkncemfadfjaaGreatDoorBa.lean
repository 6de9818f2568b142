/- Byte arrays by their lists. No program. -/
namespace Go.Proofs.YtbnkncemfadfjaaGreatDoor
set_option linter.unusedVariables false
set_option linter.unusedSimpArgs false
theorem by_list {s t : ByteArray} (h : s.data.toList = t.data.toList) : s = t := ByteArray.ext (Array.ext' h)
theorem list_cut (s : ByteArray) (a b : Nat) : (s.extract a b).data.toList = (s.data.toList.drop a).take (b - a) := by
  simp
theorem list_len (s : ByteArray) : s.data.toList.length = s.size := by simp
theorem list_app (a b : ByteArray) : (a ++ b).data.toList = a.data.toList ++ b.data.toList := by simp
theorem list_tail (s : ByteArray) (n : Nat) : (s.extract n s.size).data.toList = s.data.toList.drop n := by
  rw [list_cut, List.take_of_length_le (by rw [List.length_drop, list_len]; omega)]
theorem list_front (s : ByteArray) (n : Nat) : (s.extract 0 n).data.toList = s.data.toList.take n := by
  rw [list_cut, List.drop_zero, Nat.sub_zero]
end Go.Proofs.YtbnkncemfadfjaaGreatDoor
