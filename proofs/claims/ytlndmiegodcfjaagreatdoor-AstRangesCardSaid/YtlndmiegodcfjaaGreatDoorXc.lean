/- The walks of package lexer. Printed by doorl.py. -/
import Derived.Test.YtlndmiegodcfjaaGreatDoorXb
import Derived.Test.YtlndmiegodcfjaaGreatDoorXa
set_option linter.unusedVariables false
set_option linter.unusedSimpArgs false
namespace Go.Proofs.YtlndmiegodcfjaaGreatDoor.Lexi
set_option maxRecDepth 20000
open Go.Gx Go.RowKit Go.Lib
theorem dK {w : World} {c : Int} : Cl Tryz.prog 54 #[.int .u8 c] w (fun u w' => u = .bool (kH c) ∧ w = w') := by
 have hc : (97 ≤ c ∧ c ≤ 122) ∨ 122 < c ∨ (65 ≤ c ∧ c ≤ 90) ∨ (90 < c ∧ c < 97 ∧ c = 95) ∨ (90 < c ∧ c < 97 ∧ c ≠ 95) ∨ c < 65 := by omega
 rcases hc with h | h | h | h | h | h
 ·rw [show kH c = true from by simp [kH]; omega]
  refine Cl.enter Tryz.func54 rfl Tryz.ntmps54 rfl rfl (.sr (.a2 rfl (.done (.sr (.m2 rfl ?_)))))
  first | refine .tq (cP rfl rfl (by omega)) rfl ?_ | refine .tq (eO rfl rfl (by omega)) rfl ?_ | refine .tq (fO rfl rfl) rfl ?_
  refine .m2 rfl ?_
  first | refine .gd (aP rfl) rfl ?_ | refine .so rfl rfl ?_
  first | refine .gd (eC rfl rfl (by omega)) rfl ?_ | refine .gd (dU rfl rfl (by omega)) rfl ?_ | refine .gd (iC rfl rfl) rfl ?_ | refine .so rfl rfl ?_
  first | refine .tq (aJ rfl rfl) rfl ?_ | refine .tq (aN rfl rfl) rfl ?_
  refine .m2 rfl ?_
  first | refine .gd (aP rfl) rfl ?_ | refine .so rfl rfl ?_
  first | refine .gd (cP rfl rfl (by omega)) rfl ?_ | refine .gd (eO rfl rfl (by omega)) rfl ?_ | refine .gd (fO rfl rfl) rfl ?_ | refine .so rfl rfl ?_
  first | refine .gd (aP rfl) rfl ?_ | refine .so rfl rfl ?_
  first | refine .gd (aP rfl) rfl ?_ | refine .so rfl rfl ?_
  first | refine .gd (eC rfl rfl (by omega)) rfl ?_ | refine .gd (dU rfl rfl (by omega)) rfl ?_ | refine .gd (iC rfl rfl) rfl ?_ | refine .so rfl rfl ?_
  first | refine .gd (aJ rfl rfl) rfl ?_ | refine .gd (aN rfl rfl) rfl ?_ | refine .so rfl rfl ?_
  first | refine .tq (aJ rfl rfl) rfl ?_ | refine .tq (aN rfl rfl) rfl ?_
  refine .m2 rfl ?_
  first | refine .gd (aP rfl) rfl ?_ | refine .so rfl rfl ?_
  first | refine .gd (aS rfl rfl (by omega)) rfl ?_ | refine .gd (aR rfl rfl (by omega)) rfl ?_ | refine .gd (bM rfl rfl) rfl ?_ | refine .so rfl rfl ?_
  first | refine .tq (aJ rfl rfl) rfl ?_ | refine .tq (aN rfl rfl) rfl ?_
  refine .a2 rfl (.done (Wp.ret ?_));exact ⟨[_],⟨rfl,trivial⟩,rfl,rfl⟩
 ·rw [show kH c = false from by simp [kH]; omega]
  refine Cl.enter Tryz.func54 rfl Tryz.ntmps54 rfl rfl (.sr (.a2 rfl (.done (.sr (.m2 rfl ?_)))))
  first | refine .tq (cP rfl rfl (by omega)) rfl ?_ | refine .tq (eO rfl rfl (by omega)) rfl ?_ | refine .tq (fO rfl rfl) rfl ?_
  refine .m2 rfl ?_
  first | refine .gd (aP rfl) rfl ?_ | refine .so rfl rfl ?_
  first | refine .gd (eC rfl rfl (by omega)) rfl ?_ | refine .gd (dU rfl rfl (by omega)) rfl ?_ | refine .gd (iC rfl rfl) rfl ?_ | refine .so rfl rfl ?_
  first | refine .tq (aJ rfl rfl) rfl ?_ | refine .tq (aN rfl rfl) rfl ?_
  refine .m2 rfl ?_
  first | refine .gd (aP rfl) rfl ?_ | refine .so rfl rfl ?_
  first | refine .gd (cP rfl rfl (by omega)) rfl ?_ | refine .gd (eO rfl rfl (by omega)) rfl ?_ | refine .gd (fO rfl rfl) rfl ?_ | refine .so rfl rfl ?_
  first | refine .gd (aP rfl) rfl ?_ | refine .so rfl rfl ?_
  first | refine .gd (aP rfl) rfl ?_ | refine .so rfl rfl ?_
  first | refine .gd (eC rfl rfl (by omega)) rfl ?_ | refine .gd (dU rfl rfl (by omega)) rfl ?_ | refine .gd (iC rfl rfl) rfl ?_ | refine .so rfl rfl ?_
  first | refine .gd (aJ rfl rfl) rfl ?_ | refine .gd (aN rfl rfl) rfl ?_ | refine .so rfl rfl ?_
  first | refine .tq (aJ rfl rfl) rfl ?_ | refine .tq (aN rfl rfl) rfl ?_
  refine .m2 rfl ?_
  first | refine .gd (aP rfl) rfl ?_ | refine .so rfl rfl ?_
  first | refine .gd (aS rfl rfl (by omega)) rfl ?_ | refine .gd (aR rfl rfl (by omega)) rfl ?_ | refine .gd (bM rfl rfl) rfl ?_ | refine .so rfl rfl ?_
  first | refine .tq (aJ rfl rfl) rfl ?_ | refine .tq (aN rfl rfl) rfl ?_
  refine .a2 rfl (.done (Wp.ret ?_));exact ⟨[_],⟨rfl,trivial⟩,rfl,rfl⟩
 ·rw [show kH c = true from by simp [kH]; omega]
  refine Cl.enter Tryz.func54 rfl Tryz.ntmps54 rfl rfl (.sr (.a2 rfl (.done (.sr (.m2 rfl ?_)))))
  first | refine .tq (cP rfl rfl (by omega)) rfl ?_ | refine .tq (eO rfl rfl (by omega)) rfl ?_ | refine .tq (fO rfl rfl) rfl ?_
  refine .m2 rfl ?_
  first | refine .gd (aP rfl) rfl ?_ | refine .so rfl rfl ?_
  first | refine .gd (eC rfl rfl (by omega)) rfl ?_ | refine .gd (dU rfl rfl (by omega)) rfl ?_ | refine .gd (iC rfl rfl) rfl ?_ | refine .so rfl rfl ?_
  first | refine .tq (aJ rfl rfl) rfl ?_ | refine .tq (aN rfl rfl) rfl ?_
  refine .m2 rfl ?_
  first | refine .gd (aP rfl) rfl ?_ | refine .so rfl rfl ?_
  first | refine .gd (cP rfl rfl (by omega)) rfl ?_ | refine .gd (eO rfl rfl (by omega)) rfl ?_ | refine .gd (fO rfl rfl) rfl ?_ | refine .so rfl rfl ?_
  first | refine .gd (aP rfl) rfl ?_ | refine .so rfl rfl ?_
  first | refine .gd (aP rfl) rfl ?_ | refine .so rfl rfl ?_
  first | refine .gd (eC rfl rfl (by omega)) rfl ?_ | refine .gd (dU rfl rfl (by omega)) rfl ?_ | refine .gd (iC rfl rfl) rfl ?_ | refine .so rfl rfl ?_
  first | refine .gd (aJ rfl rfl) rfl ?_ | refine .gd (aN rfl rfl) rfl ?_ | refine .so rfl rfl ?_
  first | refine .tq (aJ rfl rfl) rfl ?_ | refine .tq (aN rfl rfl) rfl ?_
  refine .m2 rfl ?_
  first | refine .gd (aP rfl) rfl ?_ | refine .so rfl rfl ?_
  first | refine .gd (aS rfl rfl (by omega)) rfl ?_ | refine .gd (aR rfl rfl (by omega)) rfl ?_ | refine .gd (bM rfl rfl) rfl ?_ | refine .so rfl rfl ?_
  first | refine .tq (aJ rfl rfl) rfl ?_ | refine .tq (aN rfl rfl) rfl ?_
  refine .a2 rfl (.done (Wp.ret ?_));exact ⟨[_],⟨rfl,trivial⟩,rfl,rfl⟩
 ·rw [show kH c = true from by simp [kH]; omega]
  refine Cl.enter Tryz.func54 rfl Tryz.ntmps54 rfl rfl (.sr (.a2 rfl (.done (.sr (.m2 rfl ?_)))))
  first | refine .tq (cP rfl rfl (by omega)) rfl ?_ | refine .tq (eO rfl rfl (by omega)) rfl ?_ | refine .tq (fO rfl rfl) rfl ?_
  refine .m2 rfl ?_
  first | refine .gd (aP rfl) rfl ?_ | refine .so rfl rfl ?_
  first | refine .gd (eC rfl rfl (by omega)) rfl ?_ | refine .gd (dU rfl rfl (by omega)) rfl ?_ | refine .gd (iC rfl rfl) rfl ?_ | refine .so rfl rfl ?_
  first | refine .tq (aJ rfl rfl) rfl ?_ | refine .tq (aN rfl rfl) rfl ?_
  refine .m2 rfl ?_
  first | refine .gd (aP rfl) rfl ?_ | refine .so rfl rfl ?_
  first | refine .gd (cP rfl rfl (by omega)) rfl ?_ | refine .gd (eO rfl rfl (by omega)) rfl ?_ | refine .gd (fO rfl rfl) rfl ?_ | refine .so rfl rfl ?_
  first | refine .gd (aP rfl) rfl ?_ | refine .so rfl rfl ?_
  first | refine .gd (aP rfl) rfl ?_ | refine .so rfl rfl ?_
  first | refine .gd (eC rfl rfl (by omega)) rfl ?_ | refine .gd (dU rfl rfl (by omega)) rfl ?_ | refine .gd (iC rfl rfl) rfl ?_ | refine .so rfl rfl ?_
  first | refine .gd (aJ rfl rfl) rfl ?_ | refine .gd (aN rfl rfl) rfl ?_ | refine .so rfl rfl ?_
  first | refine .tq (aJ rfl rfl) rfl ?_ | refine .tq (aN rfl rfl) rfl ?_
  refine .m2 rfl ?_
  first | refine .gd (aP rfl) rfl ?_ | refine .so rfl rfl ?_
  first | refine .gd (aS rfl rfl (by omega)) rfl ?_ | refine .gd (aR rfl rfl (by omega)) rfl ?_ | refine .gd (bM rfl rfl) rfl ?_ | refine .so rfl rfl ?_
  first | refine .tq (aJ rfl rfl) rfl ?_ | refine .tq (aN rfl rfl) rfl ?_
  refine .a2 rfl (.done (Wp.ret ?_));exact ⟨[_],⟨rfl,trivial⟩,rfl,rfl⟩
 ·rw [show kH c = false from by simp [kH]; omega]
  refine Cl.enter Tryz.func54 rfl Tryz.ntmps54 rfl rfl (.sr (.a2 rfl (.done (.sr (.m2 rfl ?_)))))
  first | refine .tq (cP rfl rfl (by omega)) rfl ?_ | refine .tq (eO rfl rfl (by omega)) rfl ?_ | refine .tq (fO rfl rfl) rfl ?_
  refine .m2 rfl ?_
  first | refine .gd (aP rfl) rfl ?_ | refine .so rfl rfl ?_
  first | refine .gd (eC rfl rfl (by omega)) rfl ?_ | refine .gd (dU rfl rfl (by omega)) rfl ?_ | refine .gd (iC rfl rfl) rfl ?_ | refine .so rfl rfl ?_
  first | refine .tq (aJ rfl rfl) rfl ?_ | refine .tq (aN rfl rfl) rfl ?_
  refine .m2 rfl ?_
  first | refine .gd (aP rfl) rfl ?_ | refine .so rfl rfl ?_
  first | refine .gd (cP rfl rfl (by omega)) rfl ?_ | refine .gd (eO rfl rfl (by omega)) rfl ?_ | refine .gd (fO rfl rfl) rfl ?_ | refine .so rfl rfl ?_
  first | refine .gd (aP rfl) rfl ?_ | refine .so rfl rfl ?_
  first | refine .gd (aP rfl) rfl ?_ | refine .so rfl rfl ?_
  first | refine .gd (eC rfl rfl (by omega)) rfl ?_ | refine .gd (dU rfl rfl (by omega)) rfl ?_ | refine .gd (iC rfl rfl) rfl ?_ | refine .so rfl rfl ?_
  first | refine .gd (aJ rfl rfl) rfl ?_ | refine .gd (aN rfl rfl) rfl ?_ | refine .so rfl rfl ?_
  first | refine .tq (aJ rfl rfl) rfl ?_ | refine .tq (aN rfl rfl) rfl ?_
  refine .m2 rfl ?_
  first | refine .gd (aP rfl) rfl ?_ | refine .so rfl rfl ?_
  first | refine .gd (aS rfl rfl (by omega)) rfl ?_ | refine .gd (aR rfl rfl (by omega)) rfl ?_ | refine .gd (bM rfl rfl) rfl ?_ | refine .so rfl rfl ?_
  first | refine .tq (aJ rfl rfl) rfl ?_ | refine .tq (aN rfl rfl) rfl ?_
  refine .a2 rfl (.done (Wp.ret ?_));exact ⟨[_],⟨rfl,trivial⟩,rfl,rfl⟩
 ·rw [show kH c = false from by simp [kH]; omega]
  refine Cl.enter Tryz.func54 rfl Tryz.ntmps54 rfl rfl (.sr (.a2 rfl (.done (.sr (.m2 rfl ?_)))))
  first | refine .tq (cP rfl rfl (by omega)) rfl ?_ | refine .tq (eO rfl rfl (by omega)) rfl ?_ | refine .tq (fO rfl rfl) rfl ?_
  refine .m2 rfl ?_
  first | refine .gd (aP rfl) rfl ?_ | refine .so rfl rfl ?_
  first | refine .gd (eC rfl rfl (by omega)) rfl ?_ | refine .gd (dU rfl rfl (by omega)) rfl ?_ | refine .gd (iC rfl rfl) rfl ?_ | refine .so rfl rfl ?_
  first | refine .tq (aJ rfl rfl) rfl ?_ | refine .tq (aN rfl rfl) rfl ?_
  refine .m2 rfl ?_
  first | refine .gd (aP rfl) rfl ?_ | refine .so rfl rfl ?_
  first | refine .gd (cP rfl rfl (by omega)) rfl ?_ | refine .gd (eO rfl rfl (by omega)) rfl ?_ | refine .gd (fO rfl rfl) rfl ?_ | refine .so rfl rfl ?_
  first | refine .gd (aP rfl) rfl ?_ | refine .so rfl rfl ?_
  first | refine .gd (aP rfl) rfl ?_ | refine .so rfl rfl ?_
  first | refine .gd (eC rfl rfl (by omega)) rfl ?_ | refine .gd (dU rfl rfl (by omega)) rfl ?_ | refine .gd (iC rfl rfl) rfl ?_ | refine .so rfl rfl ?_
  first | refine .gd (aJ rfl rfl) rfl ?_ | refine .gd (aN rfl rfl) rfl ?_ | refine .so rfl rfl ?_
  first | refine .tq (aJ rfl rfl) rfl ?_ | refine .tq (aN rfl rfl) rfl ?_
  refine .m2 rfl ?_
  first | refine .gd (aP rfl) rfl ?_ | refine .so rfl rfl ?_
  first | refine .gd (aS rfl rfl (by omega)) rfl ?_ | refine .gd (aR rfl rfl (by omega)) rfl ?_ | refine .gd (bM rfl rfl) rfl ?_ | refine .so rfl rfl ?_
  first | refine .tq (aJ rfl rfl) rfl ?_ | refine .tq (aN rfl rfl) rfl ?_
  refine .a2 rfl (.done (Wp.ret ?_));exact ⟨[_],⟨rfl,trivial⟩,rfl,rfl⟩
theorem fB {w : World} {c : Int} : Cl Tryz.prog 56 #[.int .u8 c] w (fun u w' => u = .bool (lA c) ∧ w = w') := by
 have hc : (48 ≤ c ∧ c ≤ 57) ∨ 57 < c ∨ c < 48 := by omega
 rcases hc with h | h | h
 ·rw [show lA c = true from by simp [lA]; omega]
  refine Cl.enter Tryz.func56 rfl Tryz.ntmps56 rfl rfl (.sr (.a2 rfl (.done (.sr (.m2 rfl ?_)))))
  first | refine .tq (cP rfl rfl (by omega)) rfl ?_ | refine .tq (eO rfl rfl (by omega)) rfl ?_ | refine .tq (fO rfl rfl) rfl ?_
  refine .m2 rfl ?_
  first | refine .gd (aP rfl) rfl ?_ | refine .so rfl rfl ?_
  first | refine .gd (eC rfl rfl (by omega)) rfl ?_ | refine .gd (dU rfl rfl (by omega)) rfl ?_ | refine .gd (iC rfl rfl) rfl ?_ | refine .so rfl rfl ?_
  first | refine .tq (aJ rfl rfl) rfl ?_ | refine .tq (aN rfl rfl) rfl ?_
  refine .a2 rfl (.done (Wp.ret ?_));exact ⟨[_],⟨rfl,trivial⟩,rfl,rfl⟩
 ·rw [show lA c = false from by simp [lA]; omega]
  refine Cl.enter Tryz.func56 rfl Tryz.ntmps56 rfl rfl (.sr (.a2 rfl (.done (.sr (.m2 rfl ?_)))))
  first | refine .tq (cP rfl rfl (by omega)) rfl ?_ | refine .tq (eO rfl rfl (by omega)) rfl ?_ | refine .tq (fO rfl rfl) rfl ?_
  refine .m2 rfl ?_
  first | refine .gd (aP rfl) rfl ?_ | refine .so rfl rfl ?_
  first | refine .gd (eC rfl rfl (by omega)) rfl ?_ | refine .gd (dU rfl rfl (by omega)) rfl ?_ | refine .gd (iC rfl rfl) rfl ?_ | refine .so rfl rfl ?_
  first | refine .tq (aJ rfl rfl) rfl ?_ | refine .tq (aN rfl rfl) rfl ?_
  refine .a2 rfl (.done (Wp.ret ?_));exact ⟨[_],⟨rfl,trivial⟩,rfl,rfl⟩
 ·rw [show lA c = false from by simp [lA]; omega]
  refine Cl.enter Tryz.func56 rfl Tryz.ntmps56 rfl rfl (.sr (.a2 rfl (.done (.sr (.m2 rfl ?_)))))
  first | refine .tq (cP rfl rfl (by omega)) rfl ?_ | refine .tq (eO rfl rfl (by omega)) rfl ?_ | refine .tq (fO rfl rfl) rfl ?_
  refine .m2 rfl ?_
  first | refine .gd (aP rfl) rfl ?_ | refine .so rfl rfl ?_
  first | refine .gd (eC rfl rfl (by omega)) rfl ?_ | refine .gd (dU rfl rfl (by omega)) rfl ?_ | refine .gd (iC rfl rfl) rfl ?_ | refine .so rfl rfl ?_
  first | refine .tq (aJ rfl rfl) rfl ?_ | refine .tq (aN rfl rfl) rfl ?_
  refine .a2 rfl (.done (Wp.ret ?_));exact ⟨[_],⟨rfl,trivial⟩,rfl,rfl⟩
theorem Cs {w : World} {c : Int} : Cl Tryz.prog 53 #[.int .u8 c] w (fun u w' => u = .bool (lB c) ∧ w = w') := by
 by_cases h : c = 10
 ·rw [show lB c = false from by simp [lB,h]]
  refine Cl.enter Tryz.func53 rfl Tryz.ntmps53 rfl rfl (.sr (.a2 rfl (.done (.sr (.m2 rfl ?_)))))
  first | refine .tq (dX rfl rfl (by omega)) rfl ?_ | refine .tq (cU rfl rfl (by omega)) rfl ?_ | refine .tq (gS rfl rfl) rfl ?_
  refine .a2 rfl (.done (Wp.ret ?_));exact ⟨[_],⟨rfl,trivial⟩,rfl,rfl⟩
 ·rw [show lB c = true from by simp [lB,h]]
  refine Cl.enter Tryz.func53 rfl Tryz.ntmps53 rfl rfl (.sr (.a2 rfl (.done (.sr (.m2 rfl ?_)))))
  first | refine .tq (dX rfl rfl (by omega)) rfl ?_ | refine .tq (cU rfl rfl (by omega)) rfl ?_ | refine .tq (gS rfl rfl) rfl ?_
  refine .a2 rfl (.done (Wp.ret ?_));exact ⟨[_],⟨rfl,trivial⟩,rfl,rfl⟩
theorem vC {w : World} {c : Int} : Cl Tryz.prog 107 #[.int .u8 c] w (fun u w' => u = .bool (lB c) ∧ w = w') := by
 by_cases h : c = 10
 ·rw [show lB c = false from by simp [lB,h]]
  refine Cl.enter Tryz.func107 rfl Tryz.ntmps107 rfl rfl (.sr (.a2 rfl (.done (.sr (.m2 rfl ?_)))))
  first | refine .tq (dX rfl rfl (by omega)) rfl ?_ | refine .tq (cU rfl rfl (by omega)) rfl ?_ | refine .tq (gS rfl rfl) rfl ?_
  refine .a2 rfl (.done (Wp.ret ?_));exact ⟨[_],⟨rfl,trivial⟩,rfl,rfl⟩
 ·rw [show lB c = true from by simp [lB,h]]
  refine Cl.enter Tryz.func107 rfl Tryz.ntmps107 rfl rfl (.sr (.a2 rfl (.done (.sr (.m2 rfl ?_)))))
  first | refine .tq (dX rfl rfl (by omega)) rfl ?_ | refine .tq (cU rfl rfl (by omega)) rfl ?_ | refine .tq (gS rfl rfl) rfl ?_
  refine .a2 rfl (.done (Wp.ret ?_));exact ⟨[_],⟨rfl,trivial⟩,rfl,rfl⟩
theorem yW {w : World} {c : Int} : Cl Tryz.prog 55 #[.int .u8 c] w (fun u w' => u = .bool (pM c) ∧ w = w') := by
 have e0 : pM c = (kH c || lA c) := rfl;rw [e0]
 cases h : kH c
 ·skip
  refine Cl.enter Tryz.func55 rfl Tryz.ntmps55 rfl rfl (.sr (.a2 rfl (.done (.sr (.m2 rfl (Rg.wd trivial (aC Tryz.call54 rfl dK) rfl ?_))))));rintro _ _ ⟨rfl,rfl⟩;rw [h];refine .m2 rfl ?_
  first | refine .gd (aP rfl) rfl ?_ | refine .so rfl rfl ?_
  refine Rg.wd ⟨_,rfl,rfl⟩ (aC Tryz.call56 rfl fB) rfl ?_;rintro _ _ ⟨rfl,rfl⟩
  first | refine .tq (aJ rfl rfl) rfl ?_ | refine .tq (aN rfl rfl) rfl ?_
  refine .a2 rfl (.done (Wp.ret ?_));exact ⟨[_],⟨rfl,trivial⟩,by rfl,rfl⟩
 ·skip
  refine Cl.enter Tryz.func55 rfl Tryz.ntmps55 rfl rfl (.sr (.a2 rfl (.done (.sr (.m2 rfl (Rg.wd trivial (aC Tryz.call54 rfl dK) rfl ?_))))));rintro _ _ ⟨rfl,rfl⟩;rw [h];refine .m2 rfl ?_
  first | refine .gd (aP rfl) rfl ?_ | refine .so rfl rfl ?_
  refine .so rfl rfl ?_
  first | refine .tq (aJ rfl rfl) rfl ?_ | refine .tq (aN rfl rfl) rfl ?_
  refine .a2 rfl (.done (Wp.ret ?_));exact ⟨[_],⟨rfl,trivial⟩,by rfl,rfl⟩
theorem pQ {w : World} {s : ByteArray} {c : Int} : Cl Tryz.prog 61 #[.string s,.int .u8 c] w (fun u w' => u = .int .i64 (Lib.indexByte s.data.toList c.toNat.toUInt8) ∧ w = w') :=
 (Cl.of (Tryz.strings_IndexByte s c w)).mono fun _ _ ⟨h1,h2⟩ => ⟨h1,h2.symm⟩
theorem dO (s : ByteArray) (i : Nat) : ((s.data.toList.getD i 0).toNat : Int) = bt s i := rfl
def Ct : ByteArray := ⟨#[32,9,10,13]⟩
theorem H9 : ∀ n : Fin 256,decide (0 ≤ Lib.indexByte Ct.data.toList (n.val : Int).toNat.toUInt8) = xA (n.val : Int) := by decide +kernel
theorem dW {w : World} {n : Nat} (hn : n < 256) : Cl Tryz.prog 50 #[.int .u8 n] w (fun u w' => u = .bool (xA n) ∧ w = w') := by
 have e0 := H9 ⟨n,hn⟩;simp only at e0;refine Cl.enter Tryz.func50 rfl Tryz.ntmps50 rfl rfl (.sr (.a2 rfl (.done (.sr (.m2 rfl (Rg.wd trivial (aC Tryz.call61 rfl (pQ (s := Ct))) rfl ?_))))));rintro _ _ ⟨rfl,rfl⟩;refine .t2 (fO rfl rfl) (.a2 rfl (.done (Wp.ret ?_)));exact ⟨[_],⟨rfl,trivial⟩,congrArg Value.bool e0,rfl⟩
theorem kK {p : Int → Bool} {fw : FuncId} (hcf : ∀ (args : Array Value) (w : World),(callFunc fw args).run Tryz.prog w = .ok (.enter fw args) w) (hw : ∀ (w : World) (n : Nat),n < 256 → Cl Tryz.prog fw #[.int .u8 n] w (fun u w' => u = .bool (p n) ∧ w = w'))
  {w : World} {s : ByteArray} {i0 : Nat} (hs : s.size ≤ 2000) (hi0 : i0 ≤ s.size) : Cl Tryz.prog 51 #[.string s,.int .i64 i0,.func (.func fw) #[] #[]] w (fun u w' => u = .int .i64 (gC p s i0) ∧ w = w') := by
 refine Cl.enter Tryz.func51 rfl Tryz.ntmps51 rfl rfl (.sr (.a2 rfl (.done (.seq (Wp.block ?_)))));refine Wp.loop (ι := Nat) (fun i => [(0,.string s),(1,.int .i64 i),(2,.func (.func fw) #[] #[])])
  (fun i w' => i ≤ s.size ∧ gC p s i = gC p s i0 ∧ w = w') (fun i => s.size - i) i0 (by repeat (first | exact .nil | refine .cons rfl ?_)) ⟨hi0,rfl,rfl⟩ ?_
 rintro i w3 ⟨hi,he,rfl⟩
 by_cases hlt : i < s.size
 ·cases hp : p (bt s i)
  ·skip
   refine .seq (.sr (.m2 rfl (.m2 rfl (.t2 (cS Tryz.underlying9 rfl) ?_))))
   first | refine .tq (bN rfl rfl (by omega)) rfl ?_ | refine .tq (bO rfl rfl (by omega)) rfl ?_ | refine .tq (cT rfl rfl) rfl ?_
   refine .m2 rfl ?_
   first | refine .gd (aP rfl) rfl ?_ | refine .so rfl rfl ?_
   first | refine .gd (aP rfl) rfl ?_ | refine .so rfl rfl ?_
   first | refine .gd (aP rfl) rfl ?_ | refine .so rfl rfl ?_
   first | refine .gd (bR Tryz.underlying9 rfl rfl (by omega)) rfl ?_ | refine .so rfl rfl ?_
   rw [Int.toNat_natCast];refine Rg.wd ⟨_,rfl,rfl⟩ (yR rfl hcf rfl (hw _ (s.data.toList.getD i 0).toNat (UInt8.toNat_lt _))) rfl ?_;rintro _ _ ⟨rfl,rfl⟩;rw [show p (((s.data.toList.getD i 0).toNat : Nat) : Int) = _ from hp]
   first | refine .tq (aJ rfl rfl) rfl ?_ | refine .tq (aN rfl rfl) rfl ?_
   refine .done (.condF rfl (Wp.exit (.sr (.m2 rfl (.a2 rfl (.done (Wp.ret ?_)))))));exact ⟨[_],⟨rfl,trivial⟩,by rw [← he,lC (Nat.le_refl _) hi (fun k a b => by omega) (fun _ => hp)]; rfl,rfl⟩
  ·skip
   refine .seq (.sr (.m2 rfl (.m2 rfl (.t2 (cS Tryz.underlying9 rfl) ?_))))
   first | refine .tq (bN rfl rfl (by omega)) rfl ?_ | refine .tq (bO rfl rfl (by omega)) rfl ?_ | refine .tq (cT rfl rfl) rfl ?_
   refine .m2 rfl ?_
   first | refine .gd (aP rfl) rfl ?_ | refine .so rfl rfl ?_
   first | refine .gd (aP rfl) rfl ?_ | refine .so rfl rfl ?_
   first | refine .gd (aP rfl) rfl ?_ | refine .so rfl rfl ?_
   first | refine .gd (bR Tryz.underlying9 rfl rfl (by omega)) rfl ?_ | refine .so rfl rfl ?_
   rw [Int.toNat_natCast];refine Rg.wd ⟨_,rfl,rfl⟩ (yR rfl hcf rfl (hw _ (s.data.toList.getD i 0).toNat (UInt8.toNat_lt _))) rfl ?_;rintro _ _ ⟨rfl,rfl⟩;rw [show p (((s.data.toList.getD i 0).toNat : Nat) : Int) = _ from hp]
   first | refine .tq (aJ rfl rfl) rfl ?_ | refine .tq (aN rfl rfl) rfl ?_
   refine .done (.condT rfl (Wp.skip (Wp.block (Wp.region (.m2 rfl ?_)))))
   first | refine .tq (bC rfl rfl (by omega)) rfl ?_ | refine .tq (bV rfl rfl) rfl ?_
   refine .a2 rfl (.done ?_);exact ⟨i + 1,by repeat (first | exact .nil | refine .cons rfl ?_),⟨hlt,by rw [← Ai hlt hp]; exact he,rfl⟩,by omega⟩
 ·skip
  refine .seq (.sr (.m2 rfl (.m2 rfl (.t2 (cS Tryz.underlying9 rfl) ?_))))
  first | refine .tq (bN rfl rfl (by omega)) rfl ?_ | refine .tq (bO rfl rfl (by omega)) rfl ?_ | refine .tq (cT rfl rfl) rfl ?_
  refine .m2 rfl ?_
  first | refine .gd (aP rfl) rfl ?_ | refine .so rfl rfl ?_
  first | refine .gd (aP rfl) rfl ?_ | refine .so rfl rfl ?_
  first | refine .gd (aP rfl) rfl ?_ | refine .so rfl rfl ?_
  first | refine .gd (bR Tryz.underlying9 rfl rfl (by omega)) rfl ?_ | refine .so rfl rfl ?_
  refine .so rfl rfl ?_
  first | refine .tq (aJ rfl rfl) rfl ?_ | refine .tq (aN rfl rfl) rfl ?_
  refine .done (.condF rfl (Wp.exit (.sr (.m2 rfl (.a2 rfl (.done (Wp.ret ?_)))))));exact ⟨[_],⟨rfl,trivial⟩,by rw [← he,lC (Nat.le_refl _) hi (fun k a b => by omega) (fun h => absurd h hlt)]; rfl,rfl⟩
theorem Cu {s : ByteArray} {i : Nat} (h1 : bz s i ≠ 10) (h2 : bz s i ≠ 34) : Ah s i = if bz s i = 92 ∧ bz s (i + 1) ≠ 10 then Ah s (i + 2) else Ah s (i + 1) := by
 have := pL h1;unfold Ah;rw [show lD s (s.size + 1) i = if bz s i = 10 then none else if bz s i = 34 then some (i + 1) else if bz s i = 92 ∧ bz s (i + 1) ≠ 10 then lD s s.size (i + 2) else lD s s.size (i + 1) from rfl,if_neg h1,if_neg h2,
  lR s.size (s.size + 1) (i + 2) (by omega) (by omega),lR s.size (s.size + 1) (i + 1) (by omega) (by omega)]
theorem Cv {s : ByteArray} {i : Nat} (h1 : bz s i = 10) : Ah s i = none := by
 unfold Ah lD;rw [if_pos h1]
theorem Jg {s : ByteArray} {i : Nat} (h2 : bz s i = 34) : Ah s i = some (i + 1) := by
 unfold Ah lD;rw [if_neg (by omega),if_pos h2]
def qR (s : ByteArray) : Nat × Int := match Ah s 1 with | some j => (j,106) | none => (gC lB s 1,108)
theorem qS {w : World} {s : ByteArray} (hs : s.size ≤ 2000) (h0 : 1 ≤ s.size) : Cl Tryz.prog 59 #[.string s] w (fun u w' => u = .tuple #[.int .i64 (qR s).1,.int .i64 (qR s).2] ∧ w = w') := by
 refine Cl.enter Tryz.func59 rfl Tryz.ntmps59 rfl rfl (.sr (.a2 rfl (.a2 rfl (.done (.seq (.sr (.a2 rfl (.done (Wp.block ?_)))))))));refine Wp.loop (ι := Nat) (fun i => [(0,.string s),(4,.int .i64 i)])
  (fun i w' => 1 ≤ i ∧ i ≤ s.size + 1 ∧ Ah s i = Ah s 1 ∧ w = w') (fun i => s.size + 1 - i) 1 (by repeat (first | exact .nil | refine .cons rfl ?_)) ⟨Nat.le_refl _,by omega,rfl,rfl⟩ ?_
 rintro i w3 ⟨h1,hi,he,rfl⟩
 by_cases hlt : i < s.size
 ·have ez : bz s i = bt s i := uU hlt
  by_cases c1 : bt s i = 10
  ·have hR : qR s = (gC lB s 1,108) := by unfold qR; rw [← he,Cv (by omega)]
   refine .seq (.sr (.m2 rfl (.m2 rfl (.t2 (cS Tryz.underlying9 rfl) ?_))))
   first | refine .tq (bN rfl rfl (by omega)) rfl ?_ | refine .tq (bO rfl rfl (by omega)) rfl ?_ | refine .tq (cT rfl rfl) rfl ?_
   refine .m2 rfl ?_
   first | refine .gd (aP rfl) rfl ?_ | refine .so rfl rfl ?_
   first | refine .gd (aP rfl) rfl ?_ | refine .so rfl rfl ?_
   first | refine .gd (bR Tryz.underlying9 rfl rfl (by omega)) rfl ?_ | refine .so rfl rfl ?_
   try rw [Int.toNat_natCast,dO]
   first | refine .gd (dX rfl rfl (by omega)) rfl ?_ | refine .gd (cU rfl rfl (by omega)) rfl ?_ | refine .gd (gS rfl rfl) rfl ?_ | refine .so rfl rfl ?_
   first | refine .tq (aJ rfl rfl) rfl ?_ | refine .tq (aN rfl rfl) rfl ?_
   refine .done (.condF rfl (Wp.exit (.sr (.m2 rfl (Rg.wd trivial (aC Tryz.call51 rfl (kK Tryz.call107 (fun _ _ _ => vC) hs h0)) rfl ?_)))));rintro _ _ ⟨rfl,rfl⟩;refine .a2 rfl (.a2 rfl (.done (Wp.ret ?_)));exact ⟨[_,_],⟨rfl,rfl,trivial⟩,by rw [hR]; rfl,rfl⟩
  by_cases c2 : bt s i = 34
  ·have hR : qR s = (i + 1,106) := by unfold qR; rw [← he,Jg (by omega)]
   refine .seq (.sr (.m2 rfl (.m2 rfl (.t2 (cS Tryz.underlying9 rfl) ?_))))
   first | refine .tq (bN rfl rfl (by omega)) rfl ?_ | refine .tq (bO rfl rfl (by omega)) rfl ?_ | refine .tq (cT rfl rfl) rfl ?_
   refine .m2 rfl ?_
   first | refine .gd (aP rfl) rfl ?_ | refine .so rfl rfl ?_
   first | refine .gd (aP rfl) rfl ?_ | refine .so rfl rfl ?_
   first | refine .gd (bR Tryz.underlying9 rfl rfl (by omega)) rfl ?_ | refine .so rfl rfl ?_
   try rw [Int.toNat_natCast,dO]
   first | refine .gd (dX rfl rfl (by omega)) rfl ?_ | refine .gd (cU rfl rfl (by omega)) rfl ?_ | refine .gd (gS rfl rfl) rfl ?_ | refine .so rfl rfl ?_
   first | refine .tq (aJ rfl rfl) rfl ?_ | refine .tq (aN rfl rfl) rfl ?_
   refine .done (.condT rfl (Wp.skip (.seq (Wp.block (Wp.block (.sr (.m2 rfl (.m2 rfl ?_))))))));refine .t2 (bR Tryz.underlying9 rfl rfl (by omega)) ?_
   try rw [Int.toNat_natCast,dO]
   first | refine .tq (aS rfl rfl (by omega)) rfl ?_ | refine .tq (aR rfl rfl (by omega)) rfl ?_ | refine .tq (bM rfl rfl) rfl ?_
   refine .a2 rfl (.done (.condT rfl (.sr (.m2 rfl ?_))))
   first | refine .tq (bC rfl rfl (by omega)) rfl ?_ | refine .tq (bV rfl rfl) rfl ?_
   refine .a2 rfl (.a2 rfl (.done (Wp.ret ?_)));exact ⟨[_,_],⟨rfl,rfl,trivial⟩,by rw [hR]; rfl,rfl⟩
  have es := Cu (s := s) (i := i) (by omega) (by omega);rw [he,ez] at es
  by_cases c3 : bt s i = 92 ∧ bz s (i + 1) ≠ 10
  ·have hlt2 := pL c3.2
   have c4 := c3.1;have c5 : bt s (i + 1) ≠ 10 := by have := c3.2; rwa [uU hlt2] at this
   rw [if_pos c3] at es;refine .seq (.sr (.m2 rfl (.m2 rfl (.t2 (cS Tryz.underlying9 rfl) ?_))))
   first | refine .tq (bN rfl rfl (by omega)) rfl ?_ | refine .tq (bO rfl rfl (by omega)) rfl ?_ | refine .tq (cT rfl rfl) rfl ?_
   refine .m2 rfl ?_
   first | refine .gd (aP rfl) rfl ?_ | refine .so rfl rfl ?_
   first | refine .gd (aP rfl) rfl ?_ | refine .so rfl rfl ?_
   first | refine .gd (bR Tryz.underlying9 rfl rfl (by omega)) rfl ?_ | refine .so rfl rfl ?_
   try rw [Int.toNat_natCast,dO]
   first | refine .gd (dX rfl rfl (by omega)) rfl ?_ | refine .gd (cU rfl rfl (by omega)) rfl ?_ | refine .gd (gS rfl rfl) rfl ?_ | refine .so rfl rfl ?_
   first | refine .tq (aJ rfl rfl) rfl ?_ | refine .tq (aN rfl rfl) rfl ?_
   refine .done (.condT rfl (Wp.skip (.seq (Wp.block (Wp.block (.sr (.m2 rfl (.m2 rfl ?_))))))));refine .t2 (bR Tryz.underlying9 rfl rfl (by omega)) ?_
   try rw [Int.toNat_natCast,dO]
   first | refine .tq (aS rfl rfl (by omega)) rfl ?_ | refine .tq (aR rfl rfl (by omega)) rfl ?_ | refine .tq (bM rfl rfl) rfl ?_
   refine .a2 rfl (.done (.condF rfl (.sr (.m2 rfl (.m2 rfl ?_)))));refine .t2 (bR Tryz.underlying9 rfl rfl (by omega)) ?_
   try rw [Int.toNat_natCast,dO]
   first | refine .tq (aS rfl rfl (by omega)) rfl ?_ | refine .tq (aR rfl rfl (by omega)) rfl ?_ | refine .tq (bM rfl rfl) rfl ?_
   refine .m2 rfl ?_
   first | refine .gd (aP rfl) rfl ?_ | refine .so rfl rfl ?_
   first | refine .gd (bC rfl rfl (by omega)) rfl ?_ | refine .gd (bV rfl rfl) rfl ?_ | refine .so rfl rfl ?_
   first | refine .gd (aP rfl) rfl ?_ | refine .so rfl rfl ?_
   first | refine .gd (cS Tryz.underlying9 rfl) rfl ?_ | refine .so rfl rfl ?_
   first | refine .gd (bN rfl rfl (by omega)) rfl ?_ | refine .gd (bO rfl rfl (by omega)) rfl ?_ | refine .gd (cT rfl rfl) rfl ?_ | refine .so rfl rfl ?_
   first | refine .tq (aJ rfl rfl) rfl ?_ | refine .tq (aN rfl rfl) rfl ?_
   refine .m2 rfl ?_
   first | refine .gd (aP rfl) rfl ?_ | refine .so rfl rfl ?_
   first | refine .gd (aP rfl) rfl ?_ | refine .so rfl rfl ?_
   first | refine .gd (bC rfl rfl (by omega)) rfl ?_ | refine .gd (bV rfl rfl) rfl ?_ | refine .so rfl rfl ?_
   first | refine .gd (bR Tryz.underlying9 rfl rfl (by omega)) rfl ?_ | refine .so rfl rfl ?_
   try rw [show ((i : Int) + 1).toNat = i + 1 from by omega,dO]
   first | refine .gd (dX rfl rfl (by omega)) rfl ?_ | refine .gd (cU rfl rfl (by omega)) rfl ?_ | refine .gd (gS rfl rfl) rfl ?_ | refine .so rfl rfl ?_
   first | refine .tq (aJ rfl rfl) rfl ?_ | refine .tq (aN rfl rfl) rfl ?_
   refine .a2 rfl (.done (.condT rfl (Wp.region (.m2 rfl ?_))))
   first | refine .tq (bC rfl rfl (by omega)) rfl ?_ | refine .tq (bV rfl rfl) rfl ?_
   refine .a2 rfl (.done (Wp.region (.m2 rfl ?_)))
   first | refine .tq (bC rfl rfl (by omega)) rfl ?_ | refine .tq (bV rfl rfl) rfl ?_
   refine .a2 rfl (.done ?_);exact ⟨i + 2,by repeat (first | exact .nil | refine .cons (by first | rfl | (congr 2; omega)) ?_),⟨by omega,by omega,es.symm,rfl⟩,by omega⟩
  rw [if_neg c3] at es
  by_cases c4 : bt s i = 92
  ·by_cases c6 : i + 1 < s.size
   ·have c5 : bt s (i + 1) = 10 := by
     rcases Classical.em (bt s (i + 1) = 10) with h | h
     ·exact h
     ·exact absurd ⟨c4,by rw [uU c6]; exact h⟩ c3
    refine .seq (.sr (.m2 rfl (.m2 rfl (.t2 (cS Tryz.underlying9 rfl) ?_))))
    first | refine .tq (bN rfl rfl (by omega)) rfl ?_ | refine .tq (bO rfl rfl (by omega)) rfl ?_ | refine .tq (cT rfl rfl) rfl ?_
    refine .m2 rfl ?_
    first | refine .gd (aP rfl) rfl ?_ | refine .so rfl rfl ?_
    first | refine .gd (aP rfl) rfl ?_ | refine .so rfl rfl ?_
    first | refine .gd (bR Tryz.underlying9 rfl rfl (by omega)) rfl ?_ | refine .so rfl rfl ?_
    try rw [Int.toNat_natCast,dO]
    first | refine .gd (dX rfl rfl (by omega)) rfl ?_ | refine .gd (cU rfl rfl (by omega)) rfl ?_ | refine .gd (gS rfl rfl) rfl ?_ | refine .so rfl rfl ?_
    first | refine .tq (aJ rfl rfl) rfl ?_ | refine .tq (aN rfl rfl) rfl ?_
    refine .done (.condT rfl (Wp.skip (.seq (Wp.block (Wp.block (.sr (.m2 rfl (.m2 rfl ?_))))))));refine .t2 (bR Tryz.underlying9 rfl rfl (by omega)) ?_
    try rw [Int.toNat_natCast,dO]
    first | refine .tq (aS rfl rfl (by omega)) rfl ?_ | refine .tq (aR rfl rfl (by omega)) rfl ?_ | refine .tq (bM rfl rfl) rfl ?_
    refine .a2 rfl (.done (.condF rfl (.sr (.m2 rfl (.m2 rfl ?_)))));refine .t2 (bR Tryz.underlying9 rfl rfl (by omega)) ?_
    try rw [Int.toNat_natCast,dO]
    first | refine .tq (aS rfl rfl (by omega)) rfl ?_ | refine .tq (aR rfl rfl (by omega)) rfl ?_ | refine .tq (bM rfl rfl) rfl ?_
    refine .m2 rfl ?_
    first | refine .gd (aP rfl) rfl ?_ | refine .so rfl rfl ?_
    first | refine .gd (bC rfl rfl (by omega)) rfl ?_ | refine .gd (bV rfl rfl) rfl ?_ | refine .so rfl rfl ?_
    first | refine .gd (aP rfl) rfl ?_ | refine .so rfl rfl ?_
    first | refine .gd (cS Tryz.underlying9 rfl) rfl ?_ | refine .so rfl rfl ?_
    first | refine .gd (bN rfl rfl (by omega)) rfl ?_ | refine .gd (bO rfl rfl (by omega)) rfl ?_ | refine .gd (cT rfl rfl) rfl ?_ | refine .so rfl rfl ?_
    first | refine .tq (aJ rfl rfl) rfl ?_ | refine .tq (aN rfl rfl) rfl ?_
    refine .m2 rfl ?_
    first | refine .gd (aP rfl) rfl ?_ | refine .so rfl rfl ?_
    first | refine .gd (aP rfl) rfl ?_ | refine .so rfl rfl ?_
    first | refine .gd (bC rfl rfl (by omega)) rfl ?_ | refine .gd (bV rfl rfl) rfl ?_ | refine .so rfl rfl ?_
    first | refine .gd (bR Tryz.underlying9 rfl rfl (by omega)) rfl ?_ | refine .so rfl rfl ?_
    try rw [show ((i : Int) + 1).toNat = i + 1 from by omega,dO]
    first | refine .gd (dX rfl rfl (by omega)) rfl ?_ | refine .gd (cU rfl rfl (by omega)) rfl ?_ | refine .gd (gS rfl rfl) rfl ?_ | refine .so rfl rfl ?_
    first | refine .tq (aJ rfl rfl) rfl ?_ | refine .tq (aN rfl rfl) rfl ?_
    refine .a2 rfl (.done (.condF rfl (Wp.skip (Wp.region (.m2 rfl ?_)))))
    first | refine .tq (bC rfl rfl (by omega)) rfl ?_ | refine .tq (bV rfl rfl) rfl ?_
    refine .a2 rfl (.done ?_);exact ⟨i + 1,by repeat (first | exact .nil | refine .cons rfl ?_),⟨by omega,by omega,es.symm,rfl⟩,by omega⟩
   ·skip
    refine .seq (.sr (.m2 rfl (.m2 rfl (.t2 (cS Tryz.underlying9 rfl) ?_))))
    first | refine .tq (bN rfl rfl (by omega)) rfl ?_ | refine .tq (bO rfl rfl (by omega)) rfl ?_ | refine .tq (cT rfl rfl) rfl ?_
    refine .m2 rfl ?_
    first | refine .gd (aP rfl) rfl ?_ | refine .so rfl rfl ?_
    first | refine .gd (aP rfl) rfl ?_ | refine .so rfl rfl ?_
    first | refine .gd (bR Tryz.underlying9 rfl rfl (by omega)) rfl ?_ | refine .so rfl rfl ?_
    try rw [Int.toNat_natCast,dO]
    first | refine .gd (dX rfl rfl (by omega)) rfl ?_ | refine .gd (cU rfl rfl (by omega)) rfl ?_ | refine .gd (gS rfl rfl) rfl ?_ | refine .so rfl rfl ?_
    first | refine .tq (aJ rfl rfl) rfl ?_ | refine .tq (aN rfl rfl) rfl ?_
    refine .done (.condT rfl (Wp.skip (.seq (Wp.block (Wp.block (.sr (.m2 rfl (.m2 rfl ?_))))))));refine .t2 (bR Tryz.underlying9 rfl rfl (by omega)) ?_
    try rw [Int.toNat_natCast,dO]
    first | refine .tq (aS rfl rfl (by omega)) rfl ?_ | refine .tq (aR rfl rfl (by omega)) rfl ?_ | refine .tq (bM rfl rfl) rfl ?_
    refine .a2 rfl (.done (.condF rfl (.sr (.m2 rfl (.m2 rfl ?_)))));refine .t2 (bR Tryz.underlying9 rfl rfl (by omega)) ?_
    try rw [Int.toNat_natCast,dO]
    first | refine .tq (aS rfl rfl (by omega)) rfl ?_ | refine .tq (aR rfl rfl (by omega)) rfl ?_ | refine .tq (bM rfl rfl) rfl ?_
    refine .m2 rfl ?_
    first | refine .gd (aP rfl) rfl ?_ | refine .so rfl rfl ?_
    first | refine .gd (bC rfl rfl (by omega)) rfl ?_ | refine .gd (bV rfl rfl) rfl ?_ | refine .so rfl rfl ?_
    first | refine .gd (aP rfl) rfl ?_ | refine .so rfl rfl ?_
    first | refine .gd (cS Tryz.underlying9 rfl) rfl ?_ | refine .so rfl rfl ?_
    first | refine .gd (bN rfl rfl (by omega)) rfl ?_ | refine .gd (bO rfl rfl (by omega)) rfl ?_ | refine .gd (cT rfl rfl) rfl ?_ | refine .so rfl rfl ?_
    first | refine .tq (aJ rfl rfl) rfl ?_ | refine .tq (aN rfl rfl) rfl ?_
    refine .m2 rfl ?_
    first | refine .gd (aP rfl) rfl ?_ | refine .so rfl rfl ?_
    first | refine .gd (aP rfl) rfl ?_ | refine .so rfl rfl ?_
    first | refine .gd (bC rfl rfl (by omega)) rfl ?_ | refine .gd (bV rfl rfl) rfl ?_ | refine .so rfl rfl ?_
    first | refine .gd (bR Tryz.underlying9 rfl rfl (by omega)) rfl ?_ | refine .so rfl rfl ?_
    try rw [show ((i : Int) + 1).toNat = i + 1 from by omega,dO]
    first | refine .gd (dX rfl rfl (by omega)) rfl ?_ | refine .gd (cU rfl rfl (by omega)) rfl ?_ | refine .gd (gS rfl rfl) rfl ?_ | refine .so rfl rfl ?_
    first | refine .tq (aJ rfl rfl) rfl ?_ | refine .tq (aN rfl rfl) rfl ?_
    refine .a2 rfl (.done (.condF rfl (Wp.skip (Wp.region (.m2 rfl ?_)))))
    first | refine .tq (bC rfl rfl (by omega)) rfl ?_ | refine .tq (bV rfl rfl) rfl ?_
    refine .a2 rfl (.done ?_);exact ⟨i + 1,by repeat (first | exact .nil | refine .cons rfl ?_),⟨by omega,by omega,es.symm,rfl⟩,by omega⟩
  ·skip
   refine .seq (.sr (.m2 rfl (.m2 rfl (.t2 (cS Tryz.underlying9 rfl) ?_))))
   first | refine .tq (bN rfl rfl (by omega)) rfl ?_ | refine .tq (bO rfl rfl (by omega)) rfl ?_ | refine .tq (cT rfl rfl) rfl ?_
   refine .m2 rfl ?_
   first | refine .gd (aP rfl) rfl ?_ | refine .so rfl rfl ?_
   first | refine .gd (aP rfl) rfl ?_ | refine .so rfl rfl ?_
   first | refine .gd (bR Tryz.underlying9 rfl rfl (by omega)) rfl ?_ | refine .so rfl rfl ?_
   try rw [Int.toNat_natCast,dO]
   first | refine .gd (dX rfl rfl (by omega)) rfl ?_ | refine .gd (cU rfl rfl (by omega)) rfl ?_ | refine .gd (gS rfl rfl) rfl ?_ | refine .so rfl rfl ?_
   first | refine .tq (aJ rfl rfl) rfl ?_ | refine .tq (aN rfl rfl) rfl ?_
   refine .done (.condT rfl (Wp.skip (.seq (Wp.block (Wp.block (.sr (.m2 rfl (.m2 rfl ?_))))))));refine .t2 (bR Tryz.underlying9 rfl rfl (by omega)) ?_
   try rw [Int.toNat_natCast,dO]
   first | refine .tq (aS rfl rfl (by omega)) rfl ?_ | refine .tq (aR rfl rfl (by omega)) rfl ?_ | refine .tq (bM rfl rfl) rfl ?_
   refine .a2 rfl (.done (.condF rfl (.sr (.m2 rfl (.m2 rfl ?_)))));refine .t2 (bR Tryz.underlying9 rfl rfl (by omega)) ?_
   try rw [Int.toNat_natCast,dO]
   first | refine .tq (aS rfl rfl (by omega)) rfl ?_ | refine .tq (aR rfl rfl (by omega)) rfl ?_ | refine .tq (bM rfl rfl) rfl ?_
   refine .m2 rfl ?_
   first | refine .gd (aP rfl) rfl ?_ | refine .so rfl rfl ?_
   first | refine .gd (bC rfl rfl (by omega)) rfl ?_ | refine .gd (bV rfl rfl) rfl ?_ | refine .so rfl rfl ?_
   first | refine .gd (aP rfl) rfl ?_ | refine .so rfl rfl ?_
   first | refine .gd (cS Tryz.underlying9 rfl) rfl ?_ | refine .so rfl rfl ?_
   first | refine .gd (bN rfl rfl (by omega)) rfl ?_ | refine .gd (bO rfl rfl (by omega)) rfl ?_ | refine .gd (cT rfl rfl) rfl ?_ | refine .so rfl rfl ?_
   first | refine .tq (aJ rfl rfl) rfl ?_ | refine .tq (aN rfl rfl) rfl ?_
   refine .m2 rfl ?_
   first | refine .gd (aP rfl) rfl ?_ | refine .so rfl rfl ?_
   first | refine .gd (aP rfl) rfl ?_ | refine .so rfl rfl ?_
   first | refine .gd (bC rfl rfl (by omega)) rfl ?_ | refine .gd (bV rfl rfl) rfl ?_ | refine .so rfl rfl ?_
   first | refine .gd (bR Tryz.underlying9 rfl rfl (by omega)) rfl ?_ | refine .so rfl rfl ?_
   try rw [show ((i : Int) + 1).toNat = i + 1 from by omega,dO]
   first | refine .gd (dX rfl rfl (by omega)) rfl ?_ | refine .gd (cU rfl rfl (by omega)) rfl ?_ | refine .gd (gS rfl rfl) rfl ?_ | refine .so rfl rfl ?_
   first | refine .tq (aJ rfl rfl) rfl ?_ | refine .tq (aN rfl rfl) rfl ?_
   refine .a2 rfl (.done (.condF rfl (Wp.skip (Wp.region (.m2 rfl ?_)))))
   first | refine .tq (bC rfl rfl (by omega)) rfl ?_ | refine .tq (bV rfl rfl) rfl ?_
   refine .a2 rfl (.done ?_);exact ⟨i + 1,by repeat (first | exact .nil | refine .cons rfl ?_),⟨by omega,by omega,es.symm,rfl⟩,by omega⟩
 ·have hR : qR s = (gC lB s 1,108) := by unfold qR; rw [← he,Cv (wY (by omega))]
  refine .seq (.sr (.m2 rfl (.m2 rfl (.t2 (cS Tryz.underlying9 rfl) ?_))))
  first | refine .tq (bN rfl rfl (by omega)) rfl ?_ | refine .tq (bO rfl rfl (by omega)) rfl ?_ | refine .tq (cT rfl rfl) rfl ?_
  refine .m2 rfl ?_
  first | refine .gd (aP rfl) rfl ?_ | refine .so rfl rfl ?_
  first | refine .gd (aP rfl) rfl ?_ | refine .so rfl rfl ?_
  first | refine .gd (bR Tryz.underlying9 rfl rfl (by omega)) rfl ?_ | refine .so rfl rfl ?_
  try rw [Int.toNat_natCast,dO]
  first | refine .gd (dX rfl rfl (by omega)) rfl ?_ | refine .gd (cU rfl rfl (by omega)) rfl ?_ | refine .gd (gS rfl rfl) rfl ?_ | refine .so rfl rfl ?_
  first | refine .tq (aJ rfl rfl) rfl ?_ | refine .tq (aN rfl rfl) rfl ?_
  refine .done (.condF rfl (Wp.exit (.sr (.m2 rfl (Rg.wd trivial (aC Tryz.call51 rfl (kK Tryz.call107 (fun _ _ _ => vC) hs h0)) rfl ?_)))));rintro _ _ ⟨rfl,rfl⟩;refine .a2 rfl (.a2 rfl (.done (Wp.ret ?_)));exact ⟨[_,_],⟨rfl,rfl,trivial⟩,by rw [hR]; rfl,rfl⟩
theorem E2 {w w' : World} {nm : String} {k : IntKind} {zs : List Int} (h : TabIs Tryz.prog w nm k zs) (x : Ext w w') : TabIs Tryz.prog w' nm k zs := by
 unfold TabIs World.var? at *
 cases hg : Tryz.prog.globalNamed nm with
 | none => rw [hg] at h; cases h
 | some g =>
  rw [hg] at h;simp only [Option.bind_some] at h ⊢;have hlt : g < w.heap.size := by
   rcases Nat.lt_or_ge g w.heap.size with a | a
   ·exact a
   ·rw [Array.getElem?_eq_none a] at h; cases h
  rw [x.below.block g hlt];exact h
def Asc (w : World) : Prop := TabIs Tryz.prog w "strings.asciiSpace" .u8 asciiSpaceTab
theorem Asc.ext {w w' : World} (h : Asc w) (x : Ext w w') : Asc w' := E2 h x
theorem jR {w : World} {s : ByteArray} (hs : s.size < 4294967281) (hall : (s.data.toList.all fun b => decide (b.toNat < 128)) = true) (hA : Asc w) :
  Cl Tryz.prog 106 #[.string s] w (fun u w' => (∃ b,u = .slice (some ⟨b,0,none⟩) (Lib.fields s.data.toList).length (Lib.fields s.data.toList).length ∧ Var w' b (((Lib.fields s.data.toList).map fun l => (⟨l.toArray⟩ : ByteArray)).map .string) 9) ∧ Ext w w') :=
 (Cl.of (Tryz.strings_Fields s w hs (fun j b h => by simpa using List.all_eq_true.1 hall b (List.mem_of_getElem? h)) hA)).mono fun u w' ⟨h1,h2⟩ => by
  subst h1; subst h2;refine ⟨⟨_,rfl,?_⟩,Ext.alloc _ _⟩;rw [List.map_map];unfold Var World.alloc;simp
theorem eL {w : World} {b : Nat} {zs : List ByteArray} {x : ByteArray} (hz : zs.length ≤ 9223372036854775807) (hv : Var w b (zs.map .string) 9) :
  Cl Tryz.prog 57 #[.slice (some ⟨b,0,none⟩) zs.length zs.length,.string x] w (fun u w' => u = .bool (containsS zs x) ∧ w = w') :=
 (Cl.of (Tryz.slices_Contains_string b 0 zs.length zs.length zs x w (Nat.le_refl _) hz (fun j hj => hv.cells j _ (by simp [hj])))).mono fun _ _ ⟨h1,h2⟩ => ⟨by rw [h1,List.take_length],h2.symm⟩
theorem fH {w : World} {s p : ByteArray} : Cl Tryz.prog 52 #[.string s,.string p] w (fun u w' => u = .bool (hasPrefix s.data.toList p.data.toList) ∧ w = w') :=
 (Cl.of (Tryz.strings_HasPrefix s p w)).mono fun _ _ ⟨h1,h2⟩ => ⟨h1,h2.symm⟩
theorem yX (s : ByteArray) : hasPrefix s.data.toList [47,47] = true ↔ bz s 0 = 47 ∧ bz s 1 = 47 := by
 unfold bz bt hasPrefix;rw [← iY];have hu : ∀ x : UInt8,x = 47 ↔ (x.toNat : Int) = 47 := fun x => by
  constructor
  ·rintro rfl; rfl
  ·intro h
   apply UInt8.toNat_inj.1;have : (47 : UInt8).toNat = 47 := rfl;omega
 generalize s.data.toList = l
 match l with
 | [] => simp [List.isPrefixOf]
 | [x] => simp [List.isPrefixOf]
 | x :: y :: r =>
  rw [if_pos (by simp),if_pos (by simp)]
  show ((47 == x) && ((47 == y) && true)) = true ↔ (x.toNat : Int) = 47 ∧ (y.toNat : Int) = 47
  rw [← hu,← hu,Bool.and_true,Bool.and_eq_true,beq_iff_eq,beq_iff_eq,eq_comm,@eq_comm _ (47 : UInt8) y]
theorem Ia {s : ByteArray} (h : uW (s.extract 0 2) = true) (hs : 1 < s.size) : bz s 1 ≠ 10 := by
 have h1 := (containsS_iff _ _).1 h;have h2 : (fL.all fun x => decide (bt x 1 ≠ 10)) = true := by decide +kernel
 have h3 := of_decide_eq_true (List.all_eq_true.1 h2 _ h1);rw [uU hs];intro e;apply h3;unfold bt at e ⊢;rw [mI,List.getD_eq_getElem?_getD,List.getElem?_take,if_pos (by omega)];rw [List.getD_eq_getElem?_getD] at e;exact e
theorem oI {w : World} (hA : Asc w) : Cl Tryz.prog 58 #[] w (fun u w' => (∃ b,u = .slice (some ⟨b,0,none⟩) iX.length iX.length ∧ Var w' b (iX.map .string) 9) ∧ Ext w w') := by
 have el : (Lib.fields xB.data.toList).length = iX.length := by unfold iX; rw [List.length_map]
 refine Cl.enter Tryz.func58 rfl Tryz.ntmps58 rfl rfl (.sr (.a2 rfl (.done (.sr ?_))));refine Rg.wd trivial (aC Tryz.call106 rfl (jR (s := xB) (by decide) (by decide +kernel) hA)) rfl ?_;rintro _ w1 ⟨⟨b,rfl,hv⟩,hx⟩;rw [el];refine .a2 rfl (.done (Wp.ret ?_));exact ⟨[_],⟨rfl,trivial⟩,⟨b,rfl,hv⟩,hx⟩
theorem sT {w : World} (hA : Asc w) : Cl Tryz.prog 60 #[] w (fun u w' => (∃ b,u = .slice (some ⟨b,0,none⟩) fL.length fL.length ∧ Var w' b (fL.map .string) 9) ∧ Ext w w') := by
 have el : (Lib.fields sP.data.toList).length = fL.length := by unfold fL; rw [List.length_map]
 refine Cl.enter Tryz.func60 rfl Tryz.ntmps60 rfl rfl (.sr (.a2 rfl (.done (.sr ?_))));refine Rg.wd trivial (aC Tryz.call106 rfl (jR (s := sP) (by decide) (by decide +kernel) hA)) rfl ?_;rintro _ w1 ⟨⟨b,rfl,hv⟩,hx⟩;rw [el];refine .a2 rfl (.done (Wp.ret ?_));exact ⟨[_],⟨rfl,trivial⟩,⟨b,rfl,hv⟩,hx⟩
theorem Cw : iX.length ≤ 9223372036854775807 := by decide +kernel
theorem sU : fL.length ≤ 9223372036854775807 := by decide +kernel
theorem Cy {w : World} {s : ByteArray} (hs : s.size ≤ 2000) (h0 : 0 < s.size) (hA : Asc w) : Cl Tryz.prog 29 #[.string s] w (fun u w' => u = .tuple #[.int .i64 (tok s).1,.int .i64 (tok s).2] ∧ Ext w w') := by
 have hx := Ext.refl w;obtain ⟨c0,hc0⟩ : ∃ n,(s.data.toList.getD 0 0).toNat = n := ⟨_,rfl⟩;have hb : bt s 0 = c0 := congrArg Nat.cast hc0;have hlt : c0 < 256 := by rw [← hc0]; exact UInt8.toNat_lt _
 cases c1 : xA c0 with
 | true =>
  have hR : tok s = (gC xA s 0,101) := by unfold tok; rw [hb,if_pos c1]
  refine Cl.enter Tryz.func29 rfl Tryz.ntmps29 rfl rfl (.sr (.a2 rfl (.a2 rfl (.done (.seq (.sr (.m2 rfl ?_)))))));refine .t2 (bR Tryz.underlying9 rfl rfl (by omega)) ?_;rw [show (0 : Int).toNat = 0 from rfl,hc0];refine .a2 rfl (.done (Wp.block (.sr (.m2 rfl (Rg.wd trivial (aC Tryz.call50 rfl (dW hlt)) rfl ?_)))));rintro _ _ ⟨rfl,rfl⟩;rw [c1];refine .a2 rfl (.done (.condT rfl (.sr (.m2 rfl (Rg.wd trivial (aC Tryz.call51 rfl (kK (i0 := 0) Tryz.call50 (fun _ n hn => dW hn) hs (Nat.zero_le _))) rfl ?_)))));rintro _ _ ⟨rfl,rfl⟩;refine .a2 rfl (.a2 rfl (.done (Wp.ret ?_)));exact ⟨[_,_],⟨rfl,rfl,trivial⟩,by rw [hR]; rfl,hx⟩
 | false =>
  have d1 : ¬ xA c0 = true := by rw [c1]; simp
  cases c2 : hasPrefix s.data.toList [47,47] with
  | true =>
   have d2 := (yX s).1 c2;have hR : tok s = (gC lB s 0,102) := by unfold tok; rw [hb,if_neg d1,if_pos d2]
   refine Cl.enter Tryz.func29 rfl Tryz.ntmps29 rfl rfl (.sr (.a2 rfl (.a2 rfl (.done (.seq (.sr (.m2 rfl ?_)))))));refine .t2 (bR Tryz.underlying9 rfl rfl (by omega)) ?_;rw [show (0 : Int).toNat = 0 from rfl,hc0];refine .a2 rfl (.done (Wp.block (.sr (.m2 rfl (Rg.wd trivial (aC Tryz.call50 rfl (dW hlt)) rfl ?_)))));rintro _ _ ⟨rfl,rfl⟩;rw [c1];refine .a2 rfl (.done (.condF rfl (.sr (.m2 rfl (Rg.wd trivial (aC Tryz.call52 rfl fH) rfl ?_)))));rintro _ _ ⟨rfl,rfl⟩;rw [c2];refine .a2 rfl (.done (.condT rfl (.sr (.m2 rfl (Rg.wd trivial (aC Tryz.call51 rfl (kK (i0 := 0) Tryz.call53 (fun _ _ _ => Cs) hs (Nat.zero_le _))) rfl ?_)))));rintro _ _ ⟨rfl,rfl⟩;refine .a2 rfl (.a2 rfl (.done (Wp.ret ?_)));exact ⟨[_,_],⟨rfl,rfl,trivial⟩,by rw [hR]; rfl,hx⟩
  | false =>
   have d2 : ¬ (bz s 0 = 47 ∧ bz s 1 = 47) := fun h => by rw [(yX s).2 h] at c2; cases c2
   cases c3 : kH c0 with
   | true =>
    have k2 := (gY pM s 0).2.1 (Nat.zero_le _)
    cases ck : I9 (s.extract 0 (gC pM s 0)) with
    | true =>
     have hR : tok s = (gC pM s 0,104) := by unfold tok; rw [hb,if_neg d1,if_neg d2,if_pos c3,if_pos ck]
     refine Cl.enter Tryz.func29 rfl Tryz.ntmps29 rfl rfl (.sr (.a2 rfl (.a2 rfl (.done (.seq (.sr (.m2 rfl ?_)))))));refine .t2 (bR Tryz.underlying9 rfl rfl (by omega)) ?_;rw [show (0 : Int).toNat = 0 from rfl,hc0];refine .a2 rfl (.done (Wp.block (.sr (.m2 rfl (Rg.wd trivial (aC Tryz.call50 rfl (dW hlt)) rfl ?_)))));rintro _ _ ⟨rfl,rfl⟩;rw [c1];refine .a2 rfl (.done (.condF rfl (.sr (.m2 rfl (Rg.wd trivial (aC Tryz.call52 rfl fH) rfl ?_)))));rintro _ _ ⟨rfl,rfl⟩;rw [c2];refine .a2 rfl (.done (.condF rfl (.sr (.m2 rfl (Rg.wd trivial (aC Tryz.call54 rfl dK) rfl ?_)))));rintro _ _ ⟨rfl,rfl⟩;rw [c3];refine .a2 rfl (.done (.condT rfl (.sr (.m2 rfl (Rg.wd trivial (aC Tryz.call51 rfl (kK (i0 := 0) Tryz.call55 (fun _ _ _ => yW) hs (Nat.zero_le _))) rfl ?_)))));rintro _ _ ⟨rfl,rfl⟩;refine .a2 rfl (.done (.seq ?_));refine Wp.seq (Wp.draw [1,2,3,0,4] [] mixed (by kernel_rfl) (by kernel_rfl) ?_);intro w1 hx1 _;replace hx := hx.ext hx1;refine .m2 rfl (.m2 rfl ?_);refine .t2 (eK Tryz.underlying9 rfl rfl rfl (by omega)) ?_;refine Rg.wdB trivial rfl (aC Tryz.call58 rfl (oI (hA.ext hx))) rfl (fun _ _ h => h.2) ?_;rintro _ w2 ⟨⟨bk,rfl,hvk⟩,hx2⟩;replace hx := hx.ext hx2;refine Rg.wdB trivial rfl (aC Tryz.call57 rfl (eL (zs := iX) (x := s.extract 0 (gC pM s 0)) Cw hvk)) rfl (fun _ _ h => h.2 ▸ Below.refl _ _) ?_;rintro _ _ ⟨rfl,rfl⟩;rw [show containsS iX _ = _ from ck];refine .done (.condT rfl (.sr (.m2 rfl (.a2 rfl (.a2 rfl (.done (Wp.ret ?_)))))));exact ⟨[_,_],⟨rfl,rfl,trivial⟩,by rw [hR]; rfl,hx⟩
    | false =>
     have hR : tok s = (gC pM s 0,103) := by unfold tok; rw [hb,if_neg d1,if_neg d2,if_pos c3,if_neg (by rw [ck]; simp)]
     refine Cl.enter Tryz.func29 rfl Tryz.ntmps29 rfl rfl (.sr (.a2 rfl (.a2 rfl (.done (.seq (.sr (.m2 rfl ?_)))))));refine .t2 (bR Tryz.underlying9 rfl rfl (by omega)) ?_;rw [show (0 : Int).toNat = 0 from rfl,hc0];refine .a2 rfl (.done (Wp.block (.sr (.m2 rfl (Rg.wd trivial (aC Tryz.call50 rfl (dW hlt)) rfl ?_)))));rintro _ _ ⟨rfl,rfl⟩;rw [c1];refine .a2 rfl (.done (.condF rfl (.sr (.m2 rfl (Rg.wd trivial (aC Tryz.call52 rfl fH) rfl ?_)))));rintro _ _ ⟨rfl,rfl⟩;rw [c2];refine .a2 rfl (.done (.condF rfl (.sr (.m2 rfl (Rg.wd trivial (aC Tryz.call54 rfl dK) rfl ?_)))));rintro _ _ ⟨rfl,rfl⟩;rw [c3];refine .a2 rfl (.done (.condT rfl (.sr (.m2 rfl (Rg.wd trivial (aC Tryz.call51 rfl (kK (i0 := 0) Tryz.call55 (fun _ _ _ => yW) hs (Nat.zero_le _))) rfl ?_)))));rintro _ _ ⟨rfl,rfl⟩;refine .a2 rfl (.done (.seq ?_));refine Wp.seq (Wp.draw [1,2,3,0,4] [] mixed (by kernel_rfl) (by kernel_rfl) ?_);intro w1 hx1 _;replace hx := hx.ext hx1;refine .m2 rfl (.m2 rfl ?_);refine .t2 (eK Tryz.underlying9 rfl rfl rfl (by omega)) ?_;refine Rg.wdB trivial rfl (aC Tryz.call58 rfl (oI (hA.ext hx))) rfl (fun _ _ h => h.2) ?_;rintro _ w2 ⟨⟨bk,rfl,hvk⟩,hx2⟩;replace hx := hx.ext hx2;refine Rg.wdB trivial rfl (aC Tryz.call57 rfl (eL (zs := iX) (x := s.extract 0 (gC pM s 0)) Cw hvk)) rfl (fun _ _ h => h.2 ▸ Below.refl _ _) ?_;rintro _ _ ⟨rfl,rfl⟩;rw [show containsS iX _ = _ from ck];refine .done (.condF rfl (Wp.skip (.sr (.m2 rfl (.a2 rfl (.a2 rfl (.done (Wp.ret ?_))))))));exact ⟨[_,_],⟨rfl,rfl,trivial⟩,by rw [hR]; rfl,hx⟩
   | false =>
    have d3 : ¬ kH c0 = true := by rw [c3]; simp
    cases c4 : lA c0 with
    | true =>
     have hR : tok s = (gC lA s 0,105) := by unfold tok; rw [hb,if_neg d1,if_neg d2,if_neg d3,if_pos c4]
     refine Cl.enter Tryz.func29 rfl Tryz.ntmps29 rfl rfl (.sr (.a2 rfl (.a2 rfl (.done (.seq (.sr (.m2 rfl ?_)))))));refine .t2 (bR Tryz.underlying9 rfl rfl (by omega)) ?_;rw [show (0 : Int).toNat = 0 from rfl,hc0];refine .a2 rfl (.done (Wp.block (.sr (.m2 rfl (Rg.wd trivial (aC Tryz.call50 rfl (dW hlt)) rfl ?_)))));rintro _ _ ⟨rfl,rfl⟩;rw [c1];refine .a2 rfl (.done (.condF rfl (.sr (.m2 rfl (Rg.wd trivial (aC Tryz.call52 rfl fH) rfl ?_)))));rintro _ _ ⟨rfl,rfl⟩;rw [c2];refine .a2 rfl (.done (.condF rfl (.sr (.m2 rfl (Rg.wd trivial (aC Tryz.call54 rfl dK) rfl ?_)))));rintro _ _ ⟨rfl,rfl⟩;rw [c3];refine .a2 rfl (.done (.condF rfl (.sr (.m2 rfl (Rg.wd trivial (aC Tryz.call56 rfl fB) rfl ?_)))));rintro _ _ ⟨rfl,rfl⟩;rw [c4];refine .a2 rfl (.done (.condT rfl (.sr (.m2 rfl (Rg.wd trivial (aC Tryz.call51 rfl (kK (i0 := 0) Tryz.call56 (fun _ _ _ => fB) hs (Nat.zero_le _))) rfl ?_)))));rintro _ _ ⟨rfl,rfl⟩;refine .a2 rfl (.a2 rfl (.done (Wp.ret ?_)));exact ⟨[_,_],⟨rfl,rfl,trivial⟩,by rw [hR]; rfl,hx⟩
    | false =>
     have d4 : ¬ lA c0 = true := by rw [c4]; simp
     by_cases c5 : (c0 : Int) = 34
     ·have hR : tok s = qR s := by unfold tok qR; rw [hb,if_neg d1,if_neg d2,if_neg d3,if_neg d4,if_pos c5]; rfl
      refine Cl.enter Tryz.func29 rfl Tryz.ntmps29 rfl rfl (.sr (.a2 rfl (.a2 rfl (.done (.seq (.sr (.m2 rfl ?_)))))));refine .t2 (bR Tryz.underlying9 rfl rfl (by omega)) ?_;rw [show (0 : Int).toNat = 0 from rfl,hc0];refine .a2 rfl (.done (Wp.block (.sr (.m2 rfl (Rg.wd trivial (aC Tryz.call50 rfl (dW hlt)) rfl ?_)))));rintro _ _ ⟨rfl,rfl⟩;rw [c1];refine .a2 rfl (.done (.condF rfl (.sr (.m2 rfl (Rg.wd trivial (aC Tryz.call52 rfl fH) rfl ?_)))));rintro _ _ ⟨rfl,rfl⟩;rw [c2];refine .a2 rfl (.done (.condF rfl (.sr (.m2 rfl (Rg.wd trivial (aC Tryz.call54 rfl dK) rfl ?_)))));rintro _ _ ⟨rfl,rfl⟩;rw [c3];refine .a2 rfl (.done (.condF rfl (.sr (.m2 rfl (Rg.wd trivial (aC Tryz.call56 rfl fB) rfl ?_)))));rintro _ _ ⟨rfl,rfl⟩;rw [c4];refine .a2 rfl (.done (.condF rfl (.sr (.m2 rfl ?_))))
      first | refine .tq (aS rfl rfl (by omega)) rfl ?_ | refine .tq (aR rfl rfl (by omega)) rfl ?_ | refine .tq (bM rfl rfl) rfl ?_
      refine .a2 rfl (.done (.condT rfl (.sr (.m2 rfl (Rg.wd trivial (aC Tryz.call59 rfl (qS hs h0)) rfl ?_)))));rintro _ _ ⟨rfl,rfl⟩;refine .t2 (cA rfl rfl) (.t2 (cA rfl rfl) (.a2 rfl (.a2 rfl (.done (Wp.ret ?_)))));exact ⟨[_,_],⟨rfl,rfl,trivial⟩,by rw [hR]; rfl,hx⟩
     ·by_cases hl : 1 < s.size
      ·cases c6 : uW (s.extract 0 2) with
       | true =>
        have hR : tok s = (2,107) := by unfold tok; rw [hb,if_neg d1,if_neg d2,if_neg d3,if_neg d4,if_neg c5,if_pos ⟨Ia c6 hl,c6⟩]
        refine Cl.enter Tryz.func29 rfl Tryz.ntmps29 rfl rfl (.sr (.a2 rfl (.a2 rfl (.done (.seq (.sr (.m2 rfl ?_)))))));refine .t2 (bR Tryz.underlying9 rfl rfl (by omega)) ?_;rw [show (0 : Int).toNat = 0 from rfl,hc0];refine .a2 rfl (.done (Wp.block (.sr (.m2 rfl (Rg.wd trivial (aC Tryz.call50 rfl (dW hlt)) rfl ?_)))));rintro _ _ ⟨rfl,rfl⟩;rw [c1];refine .a2 rfl (.done (.condF rfl (.sr (.m2 rfl (Rg.wd trivial (aC Tryz.call52 rfl fH) rfl ?_)))));rintro _ _ ⟨rfl,rfl⟩;rw [c2];refine .a2 rfl (.done (.condF rfl (.sr (.m2 rfl (Rg.wd trivial (aC Tryz.call54 rfl dK) rfl ?_)))));rintro _ _ ⟨rfl,rfl⟩;rw [c3];refine .a2 rfl (.done (.condF rfl (.sr (.m2 rfl (Rg.wd trivial (aC Tryz.call56 rfl fB) rfl ?_)))));rintro _ _ ⟨rfl,rfl⟩;rw [c4];refine .a2 rfl (.done (.condF rfl (.sr (.m2 rfl ?_))))
        first | refine .tq (aS rfl rfl (by omega)) rfl ?_ | refine .tq (aR rfl rfl (by omega)) rfl ?_ | refine .tq (bM rfl rfl) rfl ?_
        refine .a2 rfl (.done (.condF rfl ?_));refine Wp.seq (Wp.draw [0,1,2,3,5,6,4,7,8,9] [] mixed (by kernel_rfl) (by kernel_rfl) ?_);intro w1 hx1 _;replace hx := hx.ext hx1;refine .m2 rfl (.t2 (cS Tryz.underlying9 rfl) ?_)
        first | refine .tq (gB rfl rfl (by omega)) rfl ?_ | refine .tq (eN rfl rfl (by omega)) rfl ?_ | refine .tq (jF rfl rfl) rfl ?_
        refine .m2 rfl ?_
        first | refine .gd (aP rfl) rfl ?_ | refine .so rfl rfl ?_
        first | refine .gd (eK Tryz.underlying9 rfl rfl rfl (by omega)) rfl ?_ | refine .so rfl rfl ?_
        refine Rg.wdB ⟨_,rfl,rfl⟩ rfl (aC Tryz.call60 rfl (sT (hA.ext hx))) rfl (fun _ _ h => h.2) ?_;rintro _ w2 ⟨⟨bk,rfl,hvk⟩,hx2⟩;replace hx := hx.ext hx2;refine Rg.wdB ⟨_,rfl,rfl⟩ rfl (aC Tryz.call57 rfl (eL (zs := fL) (x := s.extract 0 2) sU hvk)) rfl (fun _ _ h => h.2 ▸ Below.refl _ _) ?_;rintro _ _ ⟨rfl,rfl⟩;rw [show containsS fL _ = _ from c6]
        first | refine .tq (aJ rfl rfl) rfl ?_ | refine .tq (aN rfl rfl) rfl ?_
        refine .a2 rfl (.done (.condT rfl (.sr (.a2 rfl (.a2 rfl (.done (Wp.ret ?_)))))));exact ⟨[_,_],⟨rfl,rfl,trivial⟩,by rw [hR]; rfl,hx⟩
       | false =>
        have d6 : ¬ (bz s 1 ≠ 10 ∧ uW (s.extract 0 2) = true) := fun h => by rw [c6] at h; cases h.2
        cases c7 : Cc c0 with
        | true =>
         have hR : tok s = (1,107) := by unfold tok; rw [hb,if_neg d1,if_neg d2,if_neg d3,if_neg d4,if_neg c5,if_neg d6,if_pos c7]
         refine Cl.enter Tryz.func29 rfl Tryz.ntmps29 rfl rfl (.sr (.a2 rfl (.a2 rfl (.done (.seq (.sr (.m2 rfl ?_)))))));refine .t2 (bR Tryz.underlying9 rfl rfl (by omega)) ?_;rw [show (0 : Int).toNat = 0 from rfl,hc0];refine .a2 rfl (.done (Wp.block (.sr (.m2 rfl (Rg.wd trivial (aC Tryz.call50 rfl (dW hlt)) rfl ?_)))));rintro _ _ ⟨rfl,rfl⟩;rw [c1];refine .a2 rfl (.done (.condF rfl (.sr (.m2 rfl (Rg.wd trivial (aC Tryz.call52 rfl fH) rfl ?_)))));rintro _ _ ⟨rfl,rfl⟩;rw [c2];refine .a2 rfl (.done (.condF rfl (.sr (.m2 rfl (Rg.wd trivial (aC Tryz.call54 rfl dK) rfl ?_)))));rintro _ _ ⟨rfl,rfl⟩;rw [c3];refine .a2 rfl (.done (.condF rfl (.sr (.m2 rfl (Rg.wd trivial (aC Tryz.call56 rfl fB) rfl ?_)))));rintro _ _ ⟨rfl,rfl⟩;rw [c4];refine .a2 rfl (.done (.condF rfl (.sr (.m2 rfl ?_))))
         first | refine .tq (aS rfl rfl (by omega)) rfl ?_ | refine .tq (aR rfl rfl (by omega)) rfl ?_ | refine .tq (bM rfl rfl) rfl ?_
         refine .a2 rfl (.done (.condF rfl ?_));refine Wp.seq (Wp.draw [0,1,2,3,5,6,4,7,8,9] [] mixed (by kernel_rfl) (by kernel_rfl) ?_);intro w1 hx1 _;replace hx := hx.ext hx1;refine .m2 rfl (.t2 (cS Tryz.underlying9 rfl) ?_)
         first | refine .tq (gB rfl rfl (by omega)) rfl ?_ | refine .tq (eN rfl rfl (by omega)) rfl ?_ | refine .tq (jF rfl rfl) rfl ?_
         refine .m2 rfl ?_
         first | refine .gd (aP rfl) rfl ?_ | refine .so rfl rfl ?_
         first | refine .gd (eK Tryz.underlying9 rfl rfl rfl (by omega)) rfl ?_ | refine .so rfl rfl ?_
         refine Rg.wdB ⟨_,rfl,rfl⟩ rfl (aC Tryz.call60 rfl (sT (hA.ext hx))) rfl (fun _ _ h => h.2) ?_;rintro _ w2 ⟨⟨bk,rfl,hvk⟩,hx2⟩;replace hx := hx.ext hx2;refine Rg.wdB ⟨_,rfl,rfl⟩ rfl (aC Tryz.call57 rfl (eL (zs := fL) (x := s.extract 0 2) sU hvk)) rfl (fun _ _ h => h.2 ▸ Below.refl _ _) ?_;rintro _ _ ⟨rfl,rfl⟩;rw [show containsS fL _ = _ from c6]
         first | refine .tq (aJ rfl rfl) rfl ?_ | refine .tq (aN rfl rfl) rfl ?_
         refine .a2 rfl (.done (.condF rfl (.sr (.m2 rfl (Rg.wd trivial (aC Tryz.call61 rfl (pQ (s := iN))) rfl ?_)))));rintro _ _ ⟨rfl,rfl⟩;refine .t2 (fO rfl rfl) ?_;rw [show decide (0 ≤ indexByte iN.data.toList ((c0 : Int)).toNat.toUInt8) = _ from c7];refine .a2 rfl (.done (.condT rfl (.sr (.a2 rfl (.a2 rfl (.done (Wp.ret ?_)))))));exact ⟨[_,_],⟨rfl,rfl,trivial⟩,by rw [hR]; rfl,hx⟩
        | false =>
         have hR : tok s = (1,108) := by unfold tok; rw [hb,if_neg d1,if_neg d2,if_neg d3,if_neg d4,if_neg c5,if_neg d6,if_neg (by rw [c7]; simp)]
         refine Cl.enter Tryz.func29 rfl Tryz.ntmps29 rfl rfl (.sr (.a2 rfl (.a2 rfl (.done (.seq (.sr (.m2 rfl ?_)))))));refine .t2 (bR Tryz.underlying9 rfl rfl (by omega)) ?_;rw [show (0 : Int).toNat = 0 from rfl,hc0];refine .a2 rfl (.done (Wp.block (.sr (.m2 rfl (Rg.wd trivial (aC Tryz.call50 rfl (dW hlt)) rfl ?_)))));rintro _ _ ⟨rfl,rfl⟩;rw [c1];refine .a2 rfl (.done (.condF rfl (.sr (.m2 rfl (Rg.wd trivial (aC Tryz.call52 rfl fH) rfl ?_)))));rintro _ _ ⟨rfl,rfl⟩;rw [c2];refine .a2 rfl (.done (.condF rfl (.sr (.m2 rfl (Rg.wd trivial (aC Tryz.call54 rfl dK) rfl ?_)))));rintro _ _ ⟨rfl,rfl⟩;rw [c3];refine .a2 rfl (.done (.condF rfl (.sr (.m2 rfl (Rg.wd trivial (aC Tryz.call56 rfl fB) rfl ?_)))));rintro _ _ ⟨rfl,rfl⟩;rw [c4];refine .a2 rfl (.done (.condF rfl (.sr (.m2 rfl ?_))))
         first | refine .tq (aS rfl rfl (by omega)) rfl ?_ | refine .tq (aR rfl rfl (by omega)) rfl ?_ | refine .tq (bM rfl rfl) rfl ?_
         refine .a2 rfl (.done (.condF rfl ?_));refine Wp.seq (Wp.draw [0,1,2,3,5,6,4,7,8,9] [] mixed (by kernel_rfl) (by kernel_rfl) ?_);intro w1 hx1 _;replace hx := hx.ext hx1;refine .m2 rfl (.t2 (cS Tryz.underlying9 rfl) ?_)
         first | refine .tq (gB rfl rfl (by omega)) rfl ?_ | refine .tq (eN rfl rfl (by omega)) rfl ?_ | refine .tq (jF rfl rfl) rfl ?_
         refine .m2 rfl ?_
         first | refine .gd (aP rfl) rfl ?_ | refine .so rfl rfl ?_
         first | refine .gd (eK Tryz.underlying9 rfl rfl rfl (by omega)) rfl ?_ | refine .so rfl rfl ?_
         refine Rg.wdB ⟨_,rfl,rfl⟩ rfl (aC Tryz.call60 rfl (sT (hA.ext hx))) rfl (fun _ _ h => h.2) ?_;rintro _ w2 ⟨⟨bk,rfl,hvk⟩,hx2⟩;replace hx := hx.ext hx2;refine Rg.wdB ⟨_,rfl,rfl⟩ rfl (aC Tryz.call57 rfl (eL (zs := fL) (x := s.extract 0 2) sU hvk)) rfl (fun _ _ h => h.2 ▸ Below.refl _ _) ?_;rintro _ _ ⟨rfl,rfl⟩;rw [show containsS fL _ = _ from c6]
         first | refine .tq (aJ rfl rfl) rfl ?_ | refine .tq (aN rfl rfl) rfl ?_
         refine .a2 rfl (.done (.condF rfl (.sr (.m2 rfl (Rg.wd trivial (aC Tryz.call61 rfl (pQ (s := iN))) rfl ?_)))));rintro _ _ ⟨rfl,rfl⟩;refine .t2 (fO rfl rfl) ?_;rw [show decide (0 ≤ indexByte iN.data.toList ((c0 : Int)).toNat.toUInt8) = _ from c7];refine .a2 rfl (.done (.condF rfl (Wp.skip (.sr (.a2 rfl (.a2 rfl (.done (Wp.ret ?_))))))));exact ⟨[_,_],⟨rfl,rfl,trivial⟩,by rw [hR]; rfl,hx⟩
      ·have d6 : ¬ (bz s 1 ≠ 10 ∧ uW (s.extract 0 2) = true) := fun h => h.1 (wY (by omega))
       cases c7 : Cc c0 with
       | true =>
        have hR : tok s = (1,107) := by unfold tok; rw [hb,if_neg d1,if_neg d2,if_neg d3,if_neg d4,if_neg c5,if_neg d6,if_pos c7]
        refine Cl.enter Tryz.func29 rfl Tryz.ntmps29 rfl rfl (.sr (.a2 rfl (.a2 rfl (.done (.seq (.sr (.m2 rfl ?_)))))));refine .t2 (bR Tryz.underlying9 rfl rfl (by omega)) ?_;rw [show (0 : Int).toNat = 0 from rfl,hc0];refine .a2 rfl (.done (Wp.block (.sr (.m2 rfl (Rg.wd trivial (aC Tryz.call50 rfl (dW hlt)) rfl ?_)))));rintro _ _ ⟨rfl,rfl⟩;rw [c1];refine .a2 rfl (.done (.condF rfl (.sr (.m2 rfl (Rg.wd trivial (aC Tryz.call52 rfl fH) rfl ?_)))));rintro _ _ ⟨rfl,rfl⟩;rw [c2];refine .a2 rfl (.done (.condF rfl (.sr (.m2 rfl (Rg.wd trivial (aC Tryz.call54 rfl dK) rfl ?_)))));rintro _ _ ⟨rfl,rfl⟩;rw [c3];refine .a2 rfl (.done (.condF rfl (.sr (.m2 rfl (Rg.wd trivial (aC Tryz.call56 rfl fB) rfl ?_)))));rintro _ _ ⟨rfl,rfl⟩;rw [c4];refine .a2 rfl (.done (.condF rfl (.sr (.m2 rfl ?_))))
        first | refine .tq (aS rfl rfl (by omega)) rfl ?_ | refine .tq (aR rfl rfl (by omega)) rfl ?_ | refine .tq (bM rfl rfl) rfl ?_
        refine .a2 rfl (.done (.condF rfl ?_));refine Wp.seq (Wp.draw [0,1,2,3,5,6,4,7,8,9] [] mixed (by kernel_rfl) (by kernel_rfl) ?_);intro w1 hx1 _;replace hx := hx.ext hx1;refine .m2 rfl (.t2 (cS Tryz.underlying9 rfl) ?_)
        first | refine .tq (gB rfl rfl (by omega)) rfl ?_ | refine .tq (eN rfl rfl (by omega)) rfl ?_ | refine .tq (jF rfl rfl) rfl ?_
        refine .m2 rfl ?_
        first | refine .gd (aP rfl) rfl ?_ | refine .so rfl rfl ?_
        first | refine .gd (eK Tryz.underlying9 rfl rfl rfl (by omega)) rfl ?_ | refine .so rfl rfl ?_
        refine .so rfl rfl (.so rfl rfl ?_)
        first | refine .tq (aJ rfl rfl) rfl ?_ | refine .tq (aN rfl rfl) rfl ?_
        refine .a2 rfl (.done (.condF rfl (.sr (.m2 rfl (Rg.wd trivial (aC Tryz.call61 rfl (pQ (s := iN))) rfl ?_)))));rintro _ _ ⟨rfl,rfl⟩;refine .t2 (fO rfl rfl) ?_;rw [show decide (0 ≤ indexByte iN.data.toList ((c0 : Int)).toNat.toUInt8) = _ from c7];refine .a2 rfl (.done (.condT rfl (.sr (.a2 rfl (.a2 rfl (.done (Wp.ret ?_)))))));exact ⟨[_,_],⟨rfl,rfl,trivial⟩,by rw [hR]; rfl,hx⟩
       | false =>
        have hR : tok s = (1,108) := by unfold tok; rw [hb,if_neg d1,if_neg d2,if_neg d3,if_neg d4,if_neg c5,if_neg d6,if_neg (by rw [c7]; simp)]
        refine Cl.enter Tryz.func29 rfl Tryz.ntmps29 rfl rfl (.sr (.a2 rfl (.a2 rfl (.done (.seq (.sr (.m2 rfl ?_)))))));refine .t2 (bR Tryz.underlying9 rfl rfl (by omega)) ?_;rw [show (0 : Int).toNat = 0 from rfl,hc0];refine .a2 rfl (.done (Wp.block (.sr (.m2 rfl (Rg.wd trivial (aC Tryz.call50 rfl (dW hlt)) rfl ?_)))));rintro _ _ ⟨rfl,rfl⟩;rw [c1];refine .a2 rfl (.done (.condF rfl (.sr (.m2 rfl (Rg.wd trivial (aC Tryz.call52 rfl fH) rfl ?_)))));rintro _ _ ⟨rfl,rfl⟩;rw [c2];refine .a2 rfl (.done (.condF rfl (.sr (.m2 rfl (Rg.wd trivial (aC Tryz.call54 rfl dK) rfl ?_)))));rintro _ _ ⟨rfl,rfl⟩;rw [c3];refine .a2 rfl (.done (.condF rfl (.sr (.m2 rfl (Rg.wd trivial (aC Tryz.call56 rfl fB) rfl ?_)))));rintro _ _ ⟨rfl,rfl⟩;rw [c4];refine .a2 rfl (.done (.condF rfl (.sr (.m2 rfl ?_))))
        first | refine .tq (aS rfl rfl (by omega)) rfl ?_ | refine .tq (aR rfl rfl (by omega)) rfl ?_ | refine .tq (bM rfl rfl) rfl ?_
        refine .a2 rfl (.done (.condF rfl ?_));refine Wp.seq (Wp.draw [0,1,2,3,5,6,4,7,8,9] [] mixed (by kernel_rfl) (by kernel_rfl) ?_);intro w1 hx1 _;replace hx := hx.ext hx1;refine .m2 rfl (.t2 (cS Tryz.underlying9 rfl) ?_)
        first | refine .tq (gB rfl rfl (by omega)) rfl ?_ | refine .tq (eN rfl rfl (by omega)) rfl ?_ | refine .tq (jF rfl rfl) rfl ?_
        refine .m2 rfl ?_
        first | refine .gd (aP rfl) rfl ?_ | refine .so rfl rfl ?_
        first | refine .gd (eK Tryz.underlying9 rfl rfl rfl (by omega)) rfl ?_ | refine .so rfl rfl ?_
        refine .so rfl rfl (.so rfl rfl ?_)
        first | refine .tq (aJ rfl rfl) rfl ?_ | refine .tq (aN rfl rfl) rfl ?_
        refine .a2 rfl (.done (.condF rfl (.sr (.m2 rfl (Rg.wd trivial (aC Tryz.call61 rfl (pQ (s := iN))) rfl ?_)))));rintro _ _ ⟨rfl,rfl⟩;refine .t2 (fO rfl rfl) ?_;rw [show decide (0 ≤ indexByte iN.data.toList ((c0 : Int)).toNat.toUInt8) = _ from c7];refine .a2 rfl (.done (.condF rfl (Wp.skip (.sr (.a2 rfl (.a2 rfl (.done (Wp.ret ?_))))))));exact ⟨[_,_],⟨rfl,rfl,trivial⟩,by rw [hR]; rfl,hx⟩
end Go.Proofs.YtlndmiegodcfjaaGreatDoor.Lexi
namespace Go.Proofs.YtlndmiegodcfjaaGreatDoor.Par
open Go.Gx Go.RowKit Go.Lib
open Lexi (Asc)
def aK {α : Type} (f : α → List Value) (l : List α) : List Value := l.flatMap f
theorem aQ {α : Type} {f : α → List Value} {k : Nat} (hf : ∀ a,(f a).length = k) (l : List α) : (aK f l).length = l.length * k := by
 induction l with
 | nil => simp [aK]
 | cons a l ih => simp only [aK,List.flatMap_cons,List.length_append,List.length_cons] at ih ⊢; rw [ih,hf,Nat.add_mul]; omega
theorem fF {α : Type} (f : α → List Value) (l m : List α) : aK f (l ++ m) = aK f l ++ aK f m := by unfold aK; rw [List.flatMap_append]
theorem iF {α : Type} (f : α → List Value) (a : α) : aK f [a] = f a := by simp [aK]
theorem nT {α : Type} {f : α → List Value} (hf : ∀ a,∀ u ∈ f a,u.oneCell' = true) (l : List α) : ∀ u ∈ aK f l,u.oneCell' = true := fun u hu => by
 obtain ⟨a,_,h⟩ := List.mem_flatMap.1 hu;exact hf a u h
theorem jS {α : Type} {f : α → List Value} {k : Nat} (hf : ∀ a,(f a).length = k) : ∀ (l : List α) (i j : Nat) (h : i < l.length),j < k → (aK f l)[i * k + j]? = (f l[i])[j]?
 | [],i,j,h,hj => absurd h (Nat.not_lt_zero _)
 | a :: l,0,j,h,hj => by
  show (f a ++ aK f l)[0 * k + j]? = _
  rw [Nat.zero_mul,Nat.zero_add,List.getElem?_append_left (by rw [hf]; exact hj)];rfl
 | a :: l,i + 1,j,h,hj => by
  show (f a ++ aK f l)[(i + 1) * k + j]? = _
  have e : (i + 1) * k + j = k + (i * k + j) := by rw [Nat.add_mul]; omega
  rw [e,List.getElem?_append_right (by rw [hf]; omega),hf,Nat.add_sub_cancel_left];exact jS hf l i j (by simpa using h) hj
abbrev Fs := Nat → Prop
def Und (F : Fs) (n : Nat) : Prop := ∀ z,F z → z < n
structure Bw (F : Fs) (w w' : World) : Prop where
 os : w'.os = w.os
 tape : w'.tape = w.tape
 output : w'.output = w.output
 size : w.heap.size ≤ w'.heap.size
 block : ∀ k,F k → w'.heap[k]? = w.heap[k]?
theorem Bw.refl (F : Fs) (w : World) : Bw F w w := ⟨rfl,rfl,rfl,Nat.le_refl _,fun _ _ => rfl⟩
theorem Bw.trans {F : Fs} {a b c : World} (h : Bw F a b) (k : Bw F b c) : Bw F a c := ⟨k.os.trans h.os,k.tape.trans h.tape,k.output.trans h.output,Nat.le_trans h.size k.size,fun i hi => (k.block i hi).trans (h.block i hi)⟩
theorem Bw.sub {F G : Fs} {a b : World} (h : Bw G a b) (hs : ∀ z,F z → G z) : Bw F a b := ⟨h.os,h.tape,h.output,h.size,fun k hk => h.block k (hs k hk)⟩
theorem Bw.of {F : Fs} {a b : World} (h : Ext a b) (hF : Und F a.heap.size) : Bw F a b := ⟨h.os,h.tape,h.output,h.size,fun k hk => Below.block h k (hF k hk)⟩
theorem bS {F G : Fs} {a b c : World} (h : Bw F a b) (hu : Und G b.heap.size) (hs : ∀ z,F z → G z) (x : Ext b c) : Bw F a c := h.trans (Bw.of x fun z hz => hu z (hs z hz))
theorem Bw.upd {F : Fs} {b : Nat} {a w : World} (h : Upd b a w) (hb : ¬ F b) : Bw F a w := ⟨h.os,h.tape,h.output,Nat.le_of_eq h.size.symm,fun k hk => h.block k fun e => hb (e ▸ hk)⟩
theorem Bw.ext {F : Fs} {w0 a b : World} (h : Ext w0 a) (k : Bw F a b) (hF : ∀ z,z < w0.heap.size → F z) : Ext w0 b := ⟨k.os.trans h.os,k.tape.trans h.tape,k.output.trans h.output,Nat.le_trans h.le k.size,fun i hi => (k.block i (hF i hi)).trans (h.block i hi)⟩
def gI (F : Fs) (v : Value) : Prop := ∀ b,v.ownBlock = some b → F b
theorem gI.mono {F G : Fs} {v : Value} (h : gI F v) (hs : ∀ z,F z → G z) : gI G v := fun b hb => hs b (h b hb)
theorem aE {F : Fs} {w w' : World} {b t : Nat} {cs : List Value} (h : Var w b cs t) (k : Bw F w w') (hb : F b) : Var w' b cs t := (k.block b hb).trans h
theorem iL {F : Fs} {w w' : World} {v : Value} {size n : Nat} {cs : List Value} (h : SlC w v size n cs) (k : Bw F w w') (hb : gI F v) : SlC w' v size n cs := by
 obtain ⟨h1,p,cap,h2,h3,h4⟩ := h;refine ⟨h1,p,cap,h2,h3,h4.imp id ?_⟩;rintro ⟨b,o,h5,h6⟩;refine ⟨b,o,h5,fun i v hv => ?_⟩;rw [World.cell?_of_block (k.block b (hb b (by rw [h2,h5]; rfl)))];exact h6 i v hv
theorem fK {F : Fs} {w w' : World} {v : Value} {B e size n : Nat} {cs : List Value} (h : w.ownsRow B e size v n cs) (k : Bw F w w') (hb : gI F v) : w'.ownsRow B e size v n cs := by
 obtain ⟨h1,h2⟩ := h;refine ⟨h1,h2.imp id ?_⟩;rintro ⟨g,cap,cur,h3,h4,h5,h6⟩;exact ⟨g,cap,cur,h3,h4,(k.block g (hb g (by rw [h3]; rfl))).trans h5,h6⟩
theorem jI {w : World} {v : Value} {B e size n b : Nat} {cs : List Value} (h : w.ownsRow B e size v n cs) (hb : v.ownBlock = some b) : b < w.heap.size := by
 obtain ⟨h1,h2⟩ := h
 rcases h2 with ⟨rfl,_⟩ | ⟨g,cap,cur,rfl,h4,h5,h6⟩
 ·cases hb
 ·cases hb
  exact (Array.getElem?_eq_some_iff.1 h5).1
inductive Gt where
 | mk (k : Int) (t : ByteArray) (cv : Value) (kids : List Gt)
def Gt.cells : Gt → List Value
 | .mk k t cv _ => [.int .i64 k,.string t,cv]
mutual
def Gt.er : Gt → Tr
 | .mk k t _ ks => .mk k t (kS ks)
def kS : List Gt → List Tr
 | [] => []
 | g :: l => g.er :: kS l
end
theorem hZ (l : List Gt) : kS l = l.map Gt.er := by
 induction l with
 | nil => rfl
 | cons g l ih => simp [kS,ih]
theorem yY (l m : List Gt) : kS (l ++ m) = kS l ++ kS m := by simp [hZ]
theorem oX (l : List Gt) : (kS l).length = l.length := by simp [hZ]
inductive GOk (F : Fs) (w : World) : Gt → Prop where
 | mk {k : Int} {t : ByteArray} {cv : Value} {kids : List Gt} (hs : SlC w cv 3 kids.length (aK Gt.cells kids)) (h1 : cv.oneCell' = true) (hb : gI F cv) (hk : ∀ g ∈ kids,GOk F w g) : GOk F w (.mk k t cv kids)
theorem GOk.bw {F G : Fs} {w w' : World} {g : Gt} (h : GOk F w g) (k : Bw G w w') (hs : ∀ z,F z → G z) : GOk G w' g := by
 induction h with
 | mk h1 h2 h3 h4 ih => exact .mk (iL h1 k (h3.mono hs)) h2 (h3.mono hs) ih
theorem GOk.mono {F G : Fs} {w : World} {g : Gt} (h : GOk F w g) (hs : ∀ z,F z → G z) : GOk G w g := h.bw (Bw.refl G w) hs
theorem GOk.one {F : Fs} {w : World} {g : Gt} (h : GOk F w g) : ∀ u ∈ g.cells,u.oneCell' = true := by
 cases h with
 | mk h1 h2 h3 h4 =>
  intro u hu;simp only [Gt.cells,List.mem_cons,List.not_mem_nil,or_false] at hu
  rcases hu with rfl | rfl | rfl
  ·rfl
  ·rfl
  ·exact h2
theorem Gt.len (g : Gt) : g.cells.length = 3 := by cases g; rfl
def Cz (t : Tok) : List Value := [.int .i64 t.1,.string t.2]
theorem lF (t : Tok) : (Cz t).length = 2 := rfl
structure Fr where
 kind : Int
 cv : Value
 kids : List Gt
def Fr.cells (f : Fr) : List Value := [.int .i64 f.kind,.string fS,f.cv]
theorem Fr.len (f : Fr) : f.cells.length = 3 := rfl
structure Pg where
 bP : Nat
 sv : Value
 pos : Nat
 frs : List Fr
 Q : Fs
def Pg.muts (g : Pg) : List Nat := g.bP :: (g.sv.ownBlock.toList ++ g.frs.flatMap fun f => f.cv.ownBlock.toList)
section
variable (w0 : World) (tv : Value) (aG : List Tok)
structure Cx : Prop where
 asc : Asc w0
 tok : SlC w0 tv 2 aG.length (aK Cz aG)
 few : aG.length ≤ 1000000000
 val : V aG
structure PsW (F : Fs) (w : World) (g : Pg) : Prop where
 ext : Ext w0 w
 base : ∀ z,z < w0.heap.size → F z
 und : Und F w.heap.size
 undQ : Und g.Q w.heap.size
 var : Var w g.bP [tv,.int .i64 g.pos,g.sv] 82
 stk : w.ownsRow 0 54 3 g.sv g.frs.length (aK Fr.cells g.frs)
 kid : ∀ f ∈ g.frs,w.ownsRow 0 54 3 f.cv f.kids.length (aK Gt.cells f.kids)
 ok : ∀ f ∈ g.frs,∀ t ∈ f.kids,GOk g.Q w t
 nod : g.muts.Nodup
 off : ∀ b ∈ g.muts,¬ F b ∧ ¬ g.Q b
 fq : ∀ z,F z → ¬ g.Q z
def Ps (F : Fs) (w : World) (bP : Nat) (below : List (Int × List Tr)) (k : Int) (s : S) : Prop :=
 ∃ g : Pg,PsW w0 tv F w g ∧ g.bP = bP ∧ aG.drop g.pos = s.rem ∧ g.pos ≤ aG.length ∧ g.frs.map (fun f => (f.kind,kS f.kids)) = below ++ [(k,s.kids)] ∧ (∀ f ∈ g.frs,f.kids.length ≤ s.adds) ∧ g.frs.length ≤ s.adds + 1
end
variable {w0 : World} {tv : Value} {aG : List Tok} {F : Fs} {w w' : World}
theorem PsW.lt {g : Pg} (h : PsW w0 tv F w g) : ∀ b ∈ g.muts,b < w.heap.size := fun b hb => by
 simp only [Pg.muts,List.mem_cons,List.mem_append,Option.mem_toList,List.mem_flatMap] at hb
 rcases hb with rfl | hb | ⟨f,hf,hb⟩
 ·exact h.var.lt
 ·exact jI h.stk hb
 ·exact jI (h.kid f hf) hb
theorem PsW.bw {g : Pg} {G : Fs} (h : PsW w0 tv F w g) (k : Bw G w w') (hG : ∀ z,(F z ∨ g.Q z ∨ z ∈ g.muts) → G z) : PsW w0 tv F w' g := by
 have hF : ∀ z,F z → G z := fun z hz => hG z (.inl hz);have hQ : ∀ z,g.Q z → G z := fun z hz => hG z (.inr (.inl hz));have hM : ∀ z,z ∈ g.muts → G z := fun z hz => hG z (.inr (.inr hz));refine ⟨(k.sub hF).ext h.ext h.base,h.base,fun z hz => Nat.lt_of_lt_of_le (h.und z hz) k.size,fun z hz => Nat.lt_of_lt_of_le (h.undQ z hz) k.size,aE h.var k (hM _ (by simp [Pg.muts])),fK h.stk k fun b hb => hM b ?_,fun f hf => fK (h.kid f hf) k fun b hb => hM b ?_,fun f hf t ht => (h.ok f hf t ht).bw (k.sub hQ) fun _ hz => hz,h.nod,h.off,h.fq⟩
 ·simp [Pg.muts,hb]
 ·simp only [Pg.muts,List.mem_cons,List.mem_append,Option.mem_toList,List.mem_flatMap]
  exact .inr (.inr ⟨f,hf,hb⟩)
theorem PsW.extw {g : Pg} (h : PsW w0 tv F w g) (k : Ext w w') : PsW w0 tv F w' g := h.bw (G := fun z => z < w.heap.size) (Bw.of k fun z hz => hz) fun z hz => by
 rcases hz with hz | hz | hz
 ·exact h.und z hz
 ·exact h.undQ z hz
 ·exact h.lt z hz
theorem Ps.extw {bP : Nat} {below : List (Int × List Tr)} {k : Int} {s : S} (h : Ps w0 tv aG F w bP below k s) (x : Ext w w') : Ps w0 tv aG F w' bP below k s := by
 obtain ⟨g,h1,h2⟩ := h;exact ⟨g,h1.extw x,h2⟩
theorem Ps.add {bP b : Nat} {below : List (Int × List Tr)} {k : Int} {s : S} (h : Ps w0 tv aG F w bP below k s) (x : Ext w w') (hb : w.heap.size ≤ b) (hb' : b < w'.heap.size) : Ps w0 tv aG (fun z => F z ∨ z = b) w' bP below k s := by
 obtain ⟨g,h1,h2⟩ := h;have h3 := h1.extw x;refine ⟨g,⟨h3.ext,fun z hz => .inl (h3.base z hz),fun z hz => ?_,h3.undQ,h3.var,h3.stk,h3.kid,h3.ok,h3.nod,fun z hz => ⟨fun hF => ?_,(h3.off z hz).2⟩,fun z hz hq => ?_⟩,h2⟩
 ·rcases hz with hz | rfl
  ·exact h3.und z hz
  ·exact hb'
 ·rcases hF with hF | rfl
  ·exact (h3.off z hz).1 hF
  ·have := h1.lt _ hz
   omega
 ·rcases hz with hz | rfl
  ·exact h1.fq z hz hq
  ·have := h1.undQ _ hq
   omega
theorem Ps.sub {G : Fs} {bP : Nat} {below : List (Int × List Tr)} {k : Int} {s : S} (h : Ps w0 tv aG G w bP below k s) (hs : ∀ z,F z → G z) (hb : ∀ z,z < w0.heap.size → F z) : Ps w0 tv aG F w bP below k s := by
 obtain ⟨g,h1,h2⟩ := h;exact ⟨g,⟨h1.ext,hb,fun z hz => h1.und z (hs z hz),h1.undQ,h1.var,h1.stk,h1.kid,h1.ok,h1.nod,fun z hz => ⟨fun hF => (h1.off z hz).1 (hs z hF),(h1.off z hz).2⟩,fun z hz => h1.fq z (hs z hz)⟩,h2⟩
theorem Ps.base {bP : Nat} {below : List (Int × List Tr)} {k : Int} {s : S} (h : Ps w0 tv aG F w bP below k s) : ∀ z,z < w0.heap.size → F z := by
 obtain ⟨g,h1,_⟩ := h;exact h1.base
theorem Ps.und {bP : Nat} {below : List (Int × List Tr)} {k : Int} {s : S} (h : Ps w0 tv aG F w bP below k s) : Und F w.heap.size := by
 obtain ⟨g,h1,_⟩ := h;exact h1.und
theorem Ps.ext {bP : Nat} {below : List (Int × List Tr)} {k : Int} {s : S} (h : Ps w0 tv aG F w bP below k s) : Ext w0 w := by
 obtain ⟨g,h1,_⟩ := h;exact h1.ext
theorem Ps.updF {bP b : Nat} {below : List (Int × List Tr)} {k : Int} {s : S} (h : Ps w0 tv aG F w bP below k s) (hu : Upd b w w') (hF : F b) (hb : w0.heap.size ≤ b) : Ps w0 tv aG F w' bP below k s := by
 obtain ⟨g,h1,h2⟩ := h;have hw : Bw (fun z => z ≠ b) w w' := Bw.upd hu fun hh => hh rfl;have hm : ∀ z ∈ g.muts,z ≠ b := fun z hz e => (h1.off z hz).1 (e ▸ hF);have hq : ∀ z,g.Q z → z ≠ b := fun z hz e => h1.fq b hF (e ▸ hz);refine ⟨g,⟨h1.ext.upd hu hb,h1.base,fun z hz => Nat.lt_of_lt_of_le (h1.und z hz) hw.size,fun z hz => Nat.lt_of_lt_of_le (h1.undQ z hz) hw.size,aE h1.var hw (hm _ (by simp [Pg.muts])),fK h1.stk hw fun b hb => hm b (by simp [Pg.muts,hb]),fun f hf => fK (h1.kid f hf) hw fun b hb => hm b ?_,fun f hf t ht => (h1.ok f hf t ht).bw (hw.sub hq) fun _ hz => hz,h1.nod,h1.off,h1.fq⟩,h2⟩;simp only [Pg.muts,List.mem_cons,List.mem_append,Option.mem_toList,List.mem_flatMap];exact .inr (.inr ⟨f,hf,hb⟩)
theorem Ps.box {bP b : Nat} {below : List (Int × List Tr)} {k : Int} {s : S} (h : Ps w0 tv aG F w bP below k s) (x : Ext w w') (hb : b = w.heap.size) (hb' : b < w'.heap.size) : ∃ F1 : Fs,Ps w0 tv aG F1 w' bP below k s ∧ F1 b ∧ ∀ z,F z → F1 z :=
 ⟨fun z => F z ∨ z = b,h.add x (Nat.le_of_eq hb.symm) hb',.inr rfl,fun z hz => .inl hz⟩
end Go.Proofs.YtlndmiegodcfjaaGreatDoor.Par
namespace Go.Gx
open Go.RowKit
section
variable {P : Program} {aY : Array Oper} {n : Nat} {K : Kn} {X : Exit → Kn} {b : Nat} {listed : Array Bool} {L : Env} {w : World} {m : Nat}
def xG (aY : Array Oper) (b : Nat) (listed : Array Bool) (i : Nat) : Bool :=
 (Region.ready .any aY listed).contains i && Region.free .any aY listed i && (Nat.beq b aY.size || (!Nat.beq b i && (B2 aY (b + 1) [b]).contains i))
theorem qT {Q : Exit → Act → World → Prop} {S : World → Prop} {i : Nat} {oi : Oper} {v : Value} (hi : aY[i]? = some oi) (hsel : ∀ (j : Nat) (o : Oper) cs b,aY[j]? = some o → o.op ≠ .select cs b)
  (hQ : ∀ c a w,Q (.panic c) (a.put oi.dst v) w → Q (.panic c) a w) (hib : i ≠ b) :
  ∀ (fuel : Nat) (listed : Array Bool) (a : Act) (w : World),
   (∀ j oj,aY[j]? = some oj → j ≠ i → listed.getD j true = false → (∀ e ∈ oj.after,Region.binds .any e = true → e.on ≠ i) → oi.apart aY oj = true) →
   i ∈ Region.ready .any aY listed → Yields P aY oi v a → S w →
   gA P aY Q S b fuel (listed.setIfInBounds i true) (a.put oi.dst v) w → gA P aY Q S b (fuel + 1) listed a w := by
 intro fuel
 induction fuel with
 | zero =>
  intro listed a w _ hr hy hS H;refine ⟨fun h => (by rw [h] at hr; cases hr),fun j hj => ?_⟩
  by_cases hji : j = i
  ·subst hji; exact hy.wpOp hi ⟨fun e => absurd e hib,fun _ => ⟨hS,H⟩⟩
  ·have := ready_mono hj hji
   rw [H.1] at this
   cases this
 | succ fuel ih =>
  intro listed a w hfree hr hy hS H;refine ⟨fun h => (by rw [h] at hr; cases hr),fun j hj => ?_⟩
  by_cases hji : j = i
  ·subst hji; exact hy.wpOp hi ⟨fun e => absurd e hib,fun _ => ⟨hS,H⟩⟩
  ·have hun : listed.getD i false = false := by
    have h0 := (mem_ready.1 hr).1
    rcases Nat.lt_or_ge i listed.size with h' | h'
    ·simpa [h'] using h0
    ·simp [Array.getElem?_eq_none h'] at h0
   have h1 := H.2 j (ready_mono hj hji);obtain ⟨hjun,oj,hoj,hall⟩ := mem_ready.1 hj;have hnot : ∀ e ∈ oj.after,Region.binds .any e = true → e.on ≠ i := fun e he hb heq => by
    have h1 := hall e he hb;rw [heq,hun] at h1
    cases h1
   have h2 := wpOp_put hoj (hfree j oj hoj hji hjun hnot) (fun cs b => hsel i oi cs b hi) (fun cs b => hsel j oj cs b hoj) hQ hy h1;have hfree' : ∀ k ok,aY[k]? = some ok → k ≠ i → (listed.setIfInBounds j true).getD k true = false →
     (∀ e ∈ ok.after,Region.binds .any e = true → e.on ≠ i) → oi.apart aY ok = true := fun k ok hk hki hun hno => by
    refine hfree k ok hk hki ?_ hno
    by_cases hjk : j = k
    ·subst hjk; exact hjun
    ·rw [getD_set_ne true hjk] at hun; exact hun
   refine wpOp_mono (fun a' w' h3 => ⟨fun e => ?_,fun hjb => ?_⟩) h2
   ·refine wpAny_first hi hsel hQ fuel (listed.setIfInBounds j true) a' w' hfree' (ready_mono hr (Ne.symm hji)) h3.1 ?_
    rw [Array.setIfInBounds_comm _ _ hji];exact h3.2.1 e
   ·have h6 := h3.2.2 hjb
    refine ⟨h6.1,ih (listed.setIfInBounds j true) a' w' hfree' (ready_mono hr (Ne.symm hji)) h3.1 h6.1 ?_⟩;rw [Array.setIfInBounds_comm _ _ hji];exact h6.2
def TmW (P : Program) (n : Nat) (o : Oper) (L : Env) (v : Value) : Prop := ∀ a,Fr n a L → ∀ w',(execOp a.eval o).run P w' = .ok (.value v) w'
section
variable {d : Option Tmp} {ty : TypeId} {pos : String} {af : Array Edge} {g : Option (Nat × Bool)} {v : Value}
end
def yZ (aY : Array Oper) (b : Nat) (listed : Array Bool) (i : Nat) : Bool :=
 (Region.ready .any aY listed).contains i && Region.free .any aY listed i && !Nat.beq i b
end
section
variable {P : Program} {n : Nat} {N : Kn} {X : Exit → Kn} {L : Env} {w : World}
def Qb (P : Program) (aY : Array Oper) (n : Nat) (K : Kn) (X : Exit → Kn) (S : World → Prop) (b : Nat) (listed : Array Bool) (L : Env) (w : World) (m : Nat) : Prop :=
 ∀ a,Fr n a L → fZ aY listed → ∀ fuel,m ≤ fuel → S w → gA P aY (Tq n K X) S b fuel listed a w
variable {aY : Array Oper} {K : Kn} {S : World → Prop} {listed : Array Bool} {m b : Nat}
theorem Qb.done (hr : Region.ready .any aY listed = []) (h : K L w) : Qb P aY n K X S b listed L w m := fun a ha _ fuel _ _ => kY hr ⟨_,ha,h⟩ fuel
theorem xH {i : Nat} (hc : xG aY b listed i = true) : i ∈ Region.ready .any aY listed ∧ Region.free .any aY listed i = true ∧ (b ≠ i ∧ ∀ l,fZ aY l → l.getD i false = false → b ∉ Region.ready .any aY l) := by
 simp only [xG,Bool.and_eq_true,Bool.or_eq_true,Bool.not_eq_true'] at hc;obtain ⟨⟨hr,hfr⟩,hbar⟩ := hc;have hri : i ∈ Region.ready .any aY listed := by simpa using hr
 refine ⟨hri,hfr,?_⟩
 rcases hbar with hbar | ⟨hne,hanc⟩
 ·have hb := Nat.eq_of_beq_eq_true hbar
  have hil := jO hri;exact ⟨by omega,fun l _ _ hm => by have := jO hm; omega⟩
 ·have hne' : b ≠ i := fun e => by rw [e,Nat.beq_refl] at hne; cases hne
  refine ⟨hne',fun l hl hi hm => ?_⟩;have hself : ∀ j ∈ [b],Anc aY b j := fun j hj => by
   have hj' : j = b := by simpa using hj
   rw [hj'];exact Anc.self
  have hA := kF (b := b) (b + 1) _ hself i (by simpa using hanc)
  rcases hl.anc hm hA with e | e
  ·exact hne' e.symm
  ·rw [hi] at e; cases e
theorem Qb.tame (hs : Region.noSelect aY = true) {o : Oper} {v : Value} (i : Nat) (ho : aY[i]? = some o) (hc : xG aY b listed i = true) (hg : iV aY o L) (h : TmS P n S o L v) (hd : wD n o.dst = true)
  (k : Qb P aY n K X S b (listed.setIfInBounds i true) (lV o.dst v L) w m) : Qb P aY n K X S b listed L w (m + 1) := fun a ha hcl fuel hf hS => by
 obtain ⟨fuel,rfl⟩ : ∃ f,fuel = f + 1 := ⟨fuel - 1,by omega⟩;obtain ⟨hri,hfr,hbar⟩ := xH hc;exact kG ho (Region.noSelect_spec hs) (fun _ _ _ h => h) hbar fuel listed a w (Region.free_spec ho hfr) hri hcl (.inl ⟨hg.wanted ha,fun w' hw' => h a ha w' hw'⟩) hS (k _ (ha.put hd _) (hcl.set hri) fuel (by omega) hS)
theorem Qb.tameW (hs : Region.noSelect aY = true) {o : Oper} {v : Value} (i : Nat) (ho : aY[i]? = some o) (hc : yZ aY b listed i = true) (hg : iV aY o L) (h : TmW P n o L v) (hd : wD n o.dst = true)
  (k : Qb P aY n K X S b (listed.setIfInBounds i true) (lV o.dst v L) w m) : Qb P aY n K X S b listed L w (m + 1) := fun a ha hcl fuel hf hS => by
 obtain ⟨fuel,rfl⟩ : ∃ f,fuel = f + 1 := ⟨fuel - 1,by omega⟩;simp only [yZ,Bool.and_eq_true,Bool.not_eq_true'] at hc;obtain ⟨⟨hr,hfr⟩,hne⟩ := hc;have hri : i ∈ Region.ready .any aY listed := by simpa using hr
 have hib : i ≠ b := fun e => by rw [e,Nat.beq_refl] at hne; cases hne
 exact qT ho (Region.noSelect_spec hs) (fun _ _ _ h => h) hib fuel listed a w (Region.free_spec ho hfr) hri (.inl ⟨hg.wanted ha,fun w' => h a ha w'⟩) hS
  (k _ (ha.put hd _) (hcl.set hri) fuel (by omega) hS)
def pR (P : Program) (aY : Array Oper) (n : Nat) (K : Kn) (X : Exit → Kn) (S : World → Prop) (b : Nat) (listed : Array Bool) (L : Env) (w : World) (m : Nat) (i : Nat) : Prop :=
 ∃ (o : Oper) (R : Value → World → Prop),aY[i]? = some o ∧ Nat.beq i b = false ∧ iV aY o L ∧ Wl P n o L w R ∧ wD n o.dst = true ∧ (∀ v w',R v w' → S w') ∧ ∀ v w',R v w' → Qb P aY n K X S b (listed.setIfInBounds i true) (lV o.dst v L) w' m
theorem Qb.alt {is : List Nat} (hr : Region.ready .any aY listed = is) (hne : is ≠ []) (h : ∀ i ∈ is,pR P aY n K X S b listed L w m i) : Qb P aY n K X S b listed L w (m + 1) := fun a ha hcl fuel hf hS => by
 obtain ⟨fuel,rfl⟩ : ∃ f,fuel = f + 1 := ⟨fuel - 1,by omega⟩;refine ⟨fun h0 => absurd (hr ▸ h0) hne,fun i hi => ?_⟩;have hi' := hi;rw [hr] at hi;obtain ⟨o,R,ho,hib,hg,hw,hd,k1,k⟩ := h i hi;have hne' : i ≠ b := fun e => by rw [e,Nat.beq_refl] at hib; cases hib
 unfold wpOp;simp only [ho];rw [if_pos (hg.wanted ha)];refine .inl (hw a ha _ _ fun v w' hv => ⟨fun e => absurd e hne',fun _ => ?_⟩);have k1 := k1 v w' hv;exact ⟨k1,k v w' hv _ (ha.put hd v) (hcl.set hi') fuel (by omega) k1⟩
theorem Qb.alt1 {i : Nat} (hr : Region.ready .any aY listed = [i]) (h1 : pR P aY n K X S b listed L w m i) : Qb P aY n K X S b listed L w (m + 1) := Qb.alt hr (by simp) fun k hk => by
 obtain rfl : k = i := by simpa using hk
 exact h1
theorem Qb.alt2 {i j : Nat} (hr : Region.ready .any aY listed = [i,j]) (h1 : pR P aY n K X S b listed L w m i) (h2 : pR P aY n K X S b listed L w m j) : Qb P aY n K X S b listed L w (m + 1) := Qb.alt hr (by simp) fun k hk => by
 rcases List.mem_cons.1 hk with rfl | hk
 ·exact h1
 ·obtain rfl : k = j := by simpa using hk
  exact h2
theorem Qb.bar {o : Oper} {R : Value → World → Prop} (S' : World → Prop) (i b' : Nat) (hib : i = b) (hr : Region.ready .any aY listed = [i]) (ho : aY[i]? = some o) (hg : iV aY o L) (hw : Wl P n o L w R) (hd : wD n o.dst = true) (hS' : ∀ v w',R v w' → S' w')
  (k : ∀ v w',R v w' → Qb P aY n K X S' b' (listed.setIfInBounds i true) (lV o.dst v L) w' m) : Qb P aY n K X S b listed L w (m + 1) := fun a ha hcl fuel hf hS => by
 obtain ⟨fuel,rfl⟩ : ∃ f,fuel = f + 1 := ⟨fuel - 1,by omega⟩;refine ⟨fun h0 => (by rw [h0] at hr; cases hr),fun j hj => ?_⟩;have hj' := hj;rw [hr] at hj;obtain rfl : j = i := by simpa using hj
 unfold wpOp;simp only [ho];rw [if_pos (hg.wanted ha)];exact .inl (hw a ha _ _ fun v w' hv => ⟨fun _ => eB _ _ _ _ (k v w' hv _ (ha.put hd v) (hcl.set hj') fuel (by omega) (hS' v w' hv)),fun e => absurd hib e⟩)
section
variable {d : Option Tmp} {ty : TypeId} {pos : String} {af : Array Edge} {g : Option (Nat × Bool)}
theorem aM {f : FuncId} {fst cap : Array Operand} {us vs : List Value} (h1 : fst.toList.map (cF L) = us.map some) (h : cap.toList.map (cF L) = vs.map some) : Tm P n ⟨d,.makeFunc (.func f) fst cap,ty,pos,af,g⟩ L w (.func (.func f) us.toArray vs.toArray) := fun a ha w' _ => by
 have hc : cap.map a.eval = vs.toArray := by
  apply Array.toList_inj.1;rw [Array.toList_map];exact kZ ha h
 have hc1 : fst.map a.eval = us.toArray := by
  apply Array.toList_inj.1;rw [Array.toList_map];exact kZ ha h1
 simp [execOp,Instr.makeFunc,hc,hc1]
theorem mY {x : Operand} {f : FuncId} {fst cap : List Value} {args : Array Operand} {at_ : Array TypeId} {vs : List Value} {R : Value → World → Prop} (hx : cF L x = some (.func (.func f) fst.toArray cap.toArray)) (hf : ∀ (args : Array Value) (w : World),(callFunc f args).run P w = .ok (.enter f args) w)
  (ha : args.toList.map (cF L) = vs.map some) (h : Cl P f (fst ++ vs ++ cap).toArray w R) : Wl P n ⟨d,.call { callee := .value x,args := args,argTypes := at_ },ty,pos,af,g⟩ L w R := fun a hF Q next hn => by
 have hargs : args.map a.eval = vs.toArray := by
  apply Array.toList_inj.1;rw [Array.toList_map];exact kZ hF ha
 have hrun : (execOp a.eval ⟨d,.call { callee := .value x,args := args,argTypes := at_ },ty,pos,af,g⟩).run P w = .ok (.enter f (fst ++ vs ++ cap).toArray) w := by
  simp [execOp,resolve,hF.eval hx,Deferred.ofValue,invoke,hf,hargs]
 unfold Oper.wp;rw [hrun];simp only [Oper.upon];exact Calls.mono h fun e w' ⟨v,he,hr⟩ => by subst he; exact hn v w' hr
end
theorem bY {P : Program} {n : Nat} {L : Env} {o : Oper} {v : Value} (h : ∀ w',Tm P n o L w' v) : TmW P n o L v := fun a ha w' => h w' a ha w' (Below.refl _ _)
theorem Wp.drawB {id : Nat} (S : World → Prop) (b : Nat) (hm : P.follows .mixedOrders = true) (h : ∀ w1,Ext w w1 → w1.heap = w.heap → S w1 ∧ Qb P aY n K X S b (Array.replicate aY.size false) L w1 aY.size) : Wp P n (.region id aY true) K X L w := fun a ha => by
 obtain ⟨h1,h2⟩ := h _ (Ext.drew w) rfl;exact wp_region_any hm (eB _ _ _ _ (h2 a ha (fZ.start aY) _ (Nat.le_refl _) h1))
end
def AppR (w : World) (e size n k : Nat) (v : Value) (all : List Value) (v' : Value) (w' : World) : Prop :=
 ∃ g cap sp,v' = .slice (some ⟨g,0,none⟩) (n + k) cap ∧ n + k ≤ cap ∧ cap ≤ maxLen ∧ sp.length = (cap - (n + k)) * size ∧ Var w' g (all ++ sp) e ∧ (((∃ c,v = .slice (some ⟨g,0,none⟩) n c) ∧ Upd g w w') ∨ (w.heap.size ≤ g ∧ Ext w w'))
section
variable {P : Program} {n : Nat} {L : Env} {w : World} {d : Option Tmp} {ty : TypeId} {pos : String} {af : Array Edge} {g : Option (Nat × Bool)}
theorem iP {w : World} {B e size n : Nat} {v : Value} {xs : List Value} (h : w.ownsRow B e size v n xs) : SlC w v size n xs := by
 rcases bH h with ⟨rfl,rfl⟩ | ⟨b,cap,sp,rfl,h1,h2,h3,h4,h5⟩
 ·exact ⟨h.1,none,0,rfl,Nat.le_refl _,.inl rfl⟩
 ·refine ⟨h.1,_,cap,rfl,h2,.inr ⟨b,0,rfl,fun i v hv => ?_⟩⟩
  exact h5.cells i v (by rw [List.getElem?_append_left (List.getElem?_eq_some_iff.1 hv).1]; exact hv)
theorem bL {t e : TypeId} {i : TypeInfo} {z : Value} {x y : Operand} {size bytes m k : Nat} {v u : Value} {xs news : List Value} (ht : P.underlying t = some (.slice e)) (hi : P.info? e = some i) (hz : i.zero = some z) (hs : i.size = size) (hby : i.bytes = bytes) (hzs : z.cells.size = size)
  (hx : cF L x = some v) (hy : cF L y = some u) (hown : w.ownsRow 0 e size v m xs) (hsl : SlC w u size k news) (h1 : ∀ u ∈ news,u.oneCell' = true) (hk : 0 < k) (h63 : m + k ≤ maxLen) (hb : (m + k) * bytes ≤ 140737488355328) :
  Wl P n ⟨d,.call { callee := .builtin .append,args := #[x,y],argTypes := #[t,t] },ty,pos,af,g⟩ L w (AppR w e size m k v (xs ++ news)) := by
 have hnl : news.length = k * size := hsl.1;have grow : ∀ (p : Option Addr) (cap : Nat),v = .slice p m cap → cap < m + k → Wl P n ⟨d,.call { callee := .builtin .append,args := #[x,y],argTypes := #[t,t] },ty,pos,af,g⟩ L w (AppR w e size m k v (xs ++ news)) := fun p cap hv hfull a ha Q next hn => by
  subst hv;refine nR ht hi hz hs hby hzs hx hy (iP hown) hsl h1 hfull h63 hb a ha Q next fun v' w' ⟨hxx,ho⟩ => hn v' w' ?_
  rcases bH ho with ⟨_,h0⟩ | ⟨b,cap',sp,rfl,g1,g2,g3,g4,g5⟩
  ·omega
  ·exact ⟨b,cap',sp,rfl,g2,g3,g4,g5,.inr ⟨g1,hxx⟩⟩
 rcases bH hown with ⟨rfl,rfl⟩ | ⟨b,cap,sp,rfl,g1,g2,g3,g4,g5⟩
 ·exact grow none 0 rfl (by omega)
 ·by_cases hr : m + k ≤ cap
  ·intro a ha Q next hn
   have hfit : 0 + (m + k) * size ≤ (xs ++ sp).length := by
    rw [List.length_append,hown.1,g4,Nat.zero_add,← Nat.add_mul];exact Nat.mul_le_mul_right _ (by omega)
   refine Af (o := 0) ht hi hs g5 hx hy hsl h1 hr hfit a ha Q next fun v' w' ⟨e1,e2,e3⟩ => hn v' w' ?_;have h2 : (xs ++ sp).take (0 + m * size) = xs := by rw [Nat.zero_add,← hown.1,List.take_left]
   have h3 : (xs ++ sp).drop (0 + m * size + news.length) = sp.drop (k * size) := by
    rw [Nat.zero_add,← hown.1,List.drop_append,List.drop_eq_nil_of_le (by omega),List.nil_append,Nat.add_sub_cancel_left,hnl]
   rw [h2,h3] at e3;refine ⟨b,cap,sp.drop (k * size),e1,hr,g3,?_,e3,.inl ⟨⟨cap,rfl⟩,e2⟩⟩;rw [List.length_drop,g4,← Nat.sub_mul]
   congr 1
   omega
  ·exact grow _ _ rfl (by omega)
end
end Go.Gx
namespace Go.Proofs.YtlndmiegodcfjaaGreatDoor.Par
open Go.Gx Go.RowKit Go.Lib
open Lexi (Asc)
variable {w0 : World} {tv : Value} {F : Fs} {w w' : World}
theorem gF {bP pos : Nat} {sv : Value} {pre : List Fr} {f : Fr} {Q : Fs} : Pg.muts ⟨bP,sv,pos,pre ++ [f],Q⟩ = (bP :: (sv.ownBlock.toList ++ pre.flatMap fun f => f.cv.ownBlock.toList)) ++ f.cv.ownBlock.toList := by
 simp [Pg.muts]
theorem PsW.top {G Q : Fs} {bP pos : Nat} {sv cv' : Value} {pre : List Fr} {f : Fr} {kids' : List Gt} (h : PsW w0 tv F w ⟨bP,sv,pos,pre ++ [f],Q⟩) (hw : Bw G w w') (hG : ∀ z,z < w.heap.size → some z ≠ sv.ownBlock → some z ≠ cv'.ownBlock → G z)
  (hS : w'.ownsRow 0 54 3 sv (pre.length + 1) (aK Fr.cells (pre ++ [⟨f.kind,cv',kids'⟩]))) (hK : w'.ownsRow 0 54 3 cv' kids'.length (aK Gt.cells kids')) (hfr : ∀ b,cv'.ownBlock = some b → f.cv.ownBlock = some b ∨ w.heap.size ≤ b) (hok : ∀ t ∈ kids',GOk Q w t) :
  PsW w0 tv F w' ⟨bP,sv,pos,pre ++ [⟨f.kind,cv',kids'⟩],Q⟩ ∧ Bw F w w' := by
 have hlt := h.lt;have hnod := h.nod;have hoff := h.off;rw [gF] at hlt hnod hoff;have hbel : ∀ z,z ∈ bP :: (sv.ownBlock.toList ++ pre.flatMap fun f => f.cv.ownBlock.toList) → some z ≠ cv'.ownBlock := fun z hz e => by
  rcases hfr z e.symm with e1 | e1
  ·have := (List.nodup_append.1 hnod).2.2 z hz z (by simp [e1])
   exact this rfl
  ·have := hlt z (List.mem_append_left _ hz)
   omega
 have hsvm : ∀ z,sv.ownBlock = some z → z ∈ bP :: (sv.ownBlock.toList ++ pre.flatMap fun f => f.cv.ownBlock.toList) := fun z hz => by simp [hz]
 have hFG : ∀ z,F z → G z := fun z hz => by
  refine hG z (h.und z hz) (fun e => ?_) (fun e => ?_)
  ·exact (hoff z (List.mem_append_left _ (hsvm z e.symm))).1 hz
  ·rcases hfr z e.symm with e1 | e1
   ·exact (hoff z (List.mem_append_right _ (by simp [e1]))).1 hz
   ·have := h.und z hz
    omega
 have hQG : ∀ z,Q z → G z := fun z hz => by
  refine hG z (h.undQ z hz) (fun e => ?_) (fun e => ?_)
  ·exact (hoff z (List.mem_append_left _ (hsvm z e.symm))).2 hz
  ·rcases hfr z e.symm with e1 | e1
   ·exact (hoff z (List.mem_append_right _ (by simp [e1]))).2 hz
   ·have := h.undQ z hz
    have this : z < w.heap.size := this;omega
 have hnsv : ∀ z,z = bP ∨ z ∈ pre.flatMap (fun f => f.cv.ownBlock.toList) → some z ≠ sv.ownBlock := fun z hz e => by
  have hn := (List.nodup_append.1 hnod).1;rw [← e] at hn;simp only [Option.toList_some,List.singleton_append,List.nodup_cons] at hn
  rcases hz with rfl | hz
  ·exact hn.1 (by simp)
  ·exact hn.2.1 hz
 refine ⟨⟨(hw.sub hFG).ext h.ext h.base,h.base,fun z hz => Nat.lt_of_lt_of_le (h.und z hz) hw.size,fun z hz => Nat.lt_of_lt_of_le (h.undQ z hz) hw.size,aE h.var hw (hG _ (hlt _ (by simp)) (hnsv _ (.inl rfl)) (hbel _ (by simp))),by simpa using hS,fun x hx => ?_,fun x hx t ht => ?_,?_,fun b hb => ?_,h.fq⟩,hw.sub hFG⟩
 ·rcases List.mem_append.1 hx with hx | hx
  ·refine fK (h.kid x (by simp [hx])) hw fun b hb => ?_
   have hm : b ∈ pre.flatMap fun f => f.cv.ownBlock.toList := List.mem_flatMap.2 ⟨x,hx,by simp [hb]⟩;exact hG b (hlt b (by simp only [List.mem_append,List.mem_cons]; exact .inl (.inr (.inr hm)))) (hnsv b (.inr hm)) (hbel b (by simp only [List.mem_append,List.mem_cons]; exact .inr (.inr hm)))
  ·obtain rfl : x = ⟨f.kind,cv',kids'⟩ := by simpa using hx
   exact hK
 ·rcases List.mem_append.1 hx with hx | hx
  ·exact (h.ok x (by simp [hx]) t ht).bw (hw.sub hQG) fun _ hz => hz
  ·obtain rfl : x = ⟨f.kind,cv',kids'⟩ := by simpa using hx
   exact (hok t ht).bw (hw.sub hQG) fun _ hz => hz
 ·rw [gF]
  refine List.nodup_append.2 ⟨(List.nodup_append.1 hnod).1,?_,fun a ha b hb e => ?_⟩
  ·simp only
   cases cv'.ownBlock <;> simp
  ·subst e
   have hb : cv'.ownBlock = some a := by simpa using hb
   exact hbel a ha hb.symm
 ·rw [gF] at hb
  rcases List.mem_append.1 hb with hb | hb
  ·exact hoff b (List.mem_append_left _ hb)
  ·have hb' : cv'.ownBlock = some b := by simpa using hb
   rcases hfr b hb' with e1 | e1
   ·exact hoff b (List.mem_append_right _ (by simp [e1]))
   ·exact ⟨fun hF => by have := h.und b hF; omega,fun hF => by have this : b < w.heap.size := h.undQ b hF; omega⟩
end Go.Proofs.YtlndmiegodcfjaaGreatDoor.Par
namespace Go.Proofs.YtlndmiegodcfjaaGreatDoor.Par
set_option maxRecDepth 20000
open Go.Gx Go.RowKit Go.Lib
open Lexi (Asc)
theorem mZ {pre : List Fr} {f : Fr} {sp : List Value} (j : Nat) (hj : j < 3) : (aK Fr.cells (pre ++ [f]) ++ sp)[pre.length * 3 + j]? = f.cells[j]? := by
 have hl : (aK Fr.cells (pre ++ [f])).length = (pre ++ [f]).length * 3 := aQ Fr.len _;rw [List.getElem?_append_left (by rw [hl,List.length_append,List.length_singleton,Nat.add_mul]; omega),jS Fr.len _ _ _ (by simp) hj];simp
theorem oY {pre : List Fr} {f : Fr} {sp : List Value} (v : Value) : (aK Fr.cells (pre ++ [f]) ++ sp).take (pre.length * 3 + 2) ++ [v] ++ (aK Fr.cells (pre ++ [f]) ++ sp).drop (pre.length * 3 + 2 + 1) = aK Fr.cells (pre ++ [⟨f.kind,v,f.kids⟩]) ++ sp := by
 have hl : (aK Fr.cells pre).length = pre.length * 3 := aQ Fr.len _;rw [fF,fF,iF,iF,← hl];obtain ⟨k,cv,ks⟩ := f;simp only [Fr.cells,List.append_assoc];rw [List.take_append,List.drop_append,List.take_of_length_le (by omega),List.drop_eq_nil_of_le (by omega)];simp [show (aK Fr.cells pre).length + 2 - (aK Fr.cells pre).length = 2 by omega,show (aK Fr.cells pre).length + 2 + 1 - (aK Fr.cells pre).length = 3 by omega]
theorem zA {kids : List Gt} {t : Gt} {z sp : List Value} (hz : z.length = 3) : (aK Gt.cells kids ++ z ++ sp).take (kids.length * 3) ++ t.cells ++ (aK Gt.cells kids ++ z ++ sp).drop (kids.length * 3 + t.cells.length) = aK Gt.cells (kids ++ [t]) ++ sp := by
 have hl : (aK Gt.cells kids).length = kids.length * 3 := aQ Gt.len _;rw [fF,iF,← hl,Gt.len,List.append_assoc,List.append_assoc,List.take_left,List.drop_append,List.drop_eq_nil_of_le (by omega),List.nil_append,Nat.add_sub_cancel_left,List.drop_append,List.drop_eq_nil_of_le (by omega),List.nil_append,hz,Nat.sub_self,List.drop_zero,List.append_assoc]
theorem Fr.one {f : Fr} (h : f.cv.oneCell' = true) : ∀ u ∈ f.cells,u.oneCell' = true := by
 intro u hu;simp only [Fr.cells,List.mem_cons,List.not_mem_nil,or_false] at hu
 rcases hu with rfl | rfl | rfl
 ·rfl
 ·rfl
 ·exact h
theorem C0 {w0 : World} {tv : Value} {F : Fs} {w : World} {g : Pg} {pre : List Fr} {f : Fr} {t : Gt} (h : PsW w0 tv F w g) (hf : g.frs = pre ++ [f]) (ht : GOk g.Q w t) (hk : f.kids.length ≤ 1000000000) (hp : pre.length ≤ 1000000000) :
  Cl Tryz.prog 134 #[.pointer (some ⟨g.bP,0,none⟩),.agg t.cells.toArray] w (fun u w' => ∃ cv',PsW w0 tv F w' { g with frs := pre ++ [⟨f.kind,cv',f.kids ++ [t]⟩] } ∧ Bw F w w') := by
 obtain ⟨bP,sv,pos,frs,Q⟩ := g;simp only at hf ht;subst hf;obtain ⟨fk,cv,kids⟩ := f;simp only at hk;have hW := h;have hvar := h.var;simp only at hvar
 rcases bH h.stk with ⟨_,h0⟩ | ⟨gs,caps,sps,e1,_,gs1,gs2,gs3,hS⟩
 ·simp at h0
 simp only at e1 gs1 gs3 hS;subst e1;have hown := h.kid ⟨fk,cv,kids⟩ (by simp);simp only at hown;have hones : cv.oneCell' = true := by
  rcases bH hown with ⟨rfl,_⟩ | ⟨_,_,_,rfl,_⟩ <;> rfl
 obtain ⟨pc,cc,rfl⟩ : ∃ pc cc,cv = .slice pc kids.length cc := by
  rcases bH hown with ⟨rfl,e⟩ | ⟨_,_,_,rfl,_⟩
  ·exact ⟨none,0,by rw [e]⟩
  ·exact ⟨_,_,rfl⟩
 have hlen : (pre ++ [(⟨fk,.slice pc kids.length cc,kids⟩ : Fr)]).length = pre.length + 1 := by simp
 rw [hlen] at gs1 gs3 hvar hW;have hc62 := hvar.cells;have hcv : w.cell? ⟨gs,0 + ((pre.length + 1 : Nat) - 1 : Int).toNat * 3 + 2,none⟩ = some (.slice pc kids.length cc) := by
  have := hS.cells _ _ (mZ (pre := pre) (f := ⟨fk,.slice pc kids.length cc,kids⟩) (sp := sps) 2 (by decide));rw [Nat.zero_add] at this;rw [show 0 + ((pre.length + 1 : Nat) - 1 : Int).toNat * 3 + 2 = pre.length * 3 + 2 by omega];exact this
 obtain ⟨tk,tx,tc,tks⟩ := t;simp only [Gt.cells];have hone := ht.one;simp only [Gt.cells] at hone;obtain ⟨i25,hi25,hz25,hsi25,hby25⟩ := rJ;have hx := Ext.refl w;refine Cl.enter Tryz.func134 rfl Tryz.ntmps134 rfl rfl (.sr (Rg.wd trivial (aW rfl rfl) rfl ?_));rintro _ w1 ⟨b3,rfl,qb3,hx1,hv3⟩;replace hx := hx.ext hx1;refine .done ?_;refine Wp.seq (Wp.draw [0,1,2,3,4,5,6,7,8,9,10,11] [] mixed (by kernel_rfl) (by kernel_rfl) ?_);intro w2 hx2 _;replace hx := hx.ext hx2;replace hv3 := hv3.ext hx2;refine .m2 rfl (.t2 (aF rfl) (.t2 (aA eI rfl) (.t2 (aB eH rfl (bF.get (i := 2) (hc62.ext hx) rfl)) (.m2 rfl (.t2 (aF rfl) (.t2 (aA eI rfl) (.t2 (aB eH rfl (bF.get (i := 2) (hc62.ext hx) rfl)) (.t2 (dC Tryz.underlying52 rfl) ?_))))))))
 first | refine .tq (eG rfl rfl (by omega)) rfl ?_ | refine .tq (kR rfl rfl) rfl ?_
 refine .t2 (bI Tryz.underlying52 dA rfl rfl (by omega)) ?_;refine .a2 rfl (.done ?_);refine Wp.cut (fun L w' => ∃ i_ : Unit,Sub ((fun _ => []) i_) L ∧ (fun _ w' => ∃ cv',PsW w0 tv F w' { bP := bP,sv := .slice (some ⟨gs,0,none⟩) (pre.length + 1) caps,pos := pos,frs := pre ++ [⟨fk,cv',kids ++ [.mk tk tx tc tks]⟩],Q := Q } ∧ Bw F w w') i_ w') ?_ ?_
 ·skip
  refine Wp.drawB (fun w' => w'.cell? ⟨gs,0 + (((pre.length + 1 : Nat) : Int) - 1).toNat * 3 + 2,none⟩ = some (.slice pc kids.length cc) ∧ Var w' b3 [.int .i64 tk,.string tx,tc] 54) 7 mixed ?_;intro w3 hx3 hh3;replace hx := hx.ext hx3;replace hv3 := hv3.ext hx3;refine ⟨⟨hx.cell hcv,hv3⟩,?_⟩;refine Qb.tameW (by kernel_rfl) 0 rfl (by kernel_rfl) trivial (bY fun wz => aP rfl) rfl ?_;refine Qb.tameW (by kernel_rfl) 1 rfl (by kernel_rfl) trivial (bY fun wz => aF rfl) rfl ?_;refine Qb.tameW (by kernel_rfl) 2 rfl (by kernel_rfl) trivial (bY fun wz => aA gE rfl) rfl ?_;refine Qb.tame (by kernel_rfl) 3 rfl (by kernel_rfl) trivial (ts fun wz hkz => by exact aB eH rfl hkz.1) rfl ?_;refine Qb.tame (by kernel_rfl) 4 rfl (by kernel_rfl) trivial (ts fun wz hkz => by exact bB rfl hkz.2.cells dA) rfl ?_;refine Qb.tame (by kernel_rfl) 5 rfl (by kernel_rfl) trivial (ts fun wz hkz => by exact dC Tryz.underlying52 rfl) rfl ?_;refine Qb.alt1 (i := 6) (by kernel_rfl) ?_;refine ⟨_,_,rfl,rfl,trivial,aD (jH _ _ _ _ _) rfl,rfl,fun _ _ hr => by obtain ⟨_,_,_,hr,_⟩ := hr; exact ⟨hr.cell (hx.cell hcv),hv3.ext hr⟩,?_⟩;rintro _ w4 ⟨b22,rfl,q22,hx4,hv22⟩;replace hx := hx.ext hx4;replace hv3 := hv3.ext hx4;refine Qb.bar (fun _ => True) 7 13 rfl (by kernel_rfl) rfl trivial (bL Tryz.underlying52 hi25 hz25 hsi25 hby25 rfl rfl rfl (cM hown hx) (bX hv22 rfl) (by decide) (by decide) (by unfold maxLen; omega) (by omega)) rfl (fun _ _ _ => trivial) ?_;rintro _ w5 ⟨gk,capk,spk,rfl,hck,hmk,hlk,hvk,hwhere⟩;have hfr : (Value.slice pc kids.length cc).ownBlock = some gk ∨ w.heap.size ≤ gk := by
   rcases hwhere with ⟨⟨c,e⟩,_⟩ | ⟨e,_⟩
   ·exact .inl (by rw [e]; rfl)
   ·exact .inr (Nat.le_trans hx.le e)
  have hne : gs ≠ gk := fun e => by
   rcases hfr with e1 | e1
   ·have hn := hW.nod
    rw [gF] at hn;exact (List.nodup_append.1 hn).2.2 gs (by simp [Value.ownBlock]) gs (by simp [e1,e]) rfl
   ·have := hS.lt
    omega
  obtain ⟨G,hGd⟩ : ∃ G : Fs,G = fun z => z < w.heap.size ∧ z ≠ gk ∧ z ≠ gs := ⟨_,rfl⟩;have nGk : ¬ G gk := by rw [hGd]; exact fun h => h.2.1 rfl
  have nGs : ¬ G gs := by rw [hGd]; exact fun h => h.2.2 rfl
  have hB : Bw G w w5 := by
   have h1 : Bw G w w4 := Bw.of hx (by rw [hGd]; exact fun z hz => hz.1)
   rcases hwhere with ⟨_,hu⟩ | ⟨_,hu⟩
   ·exact h1.trans (Bw.upd hu nGk)
   ·exact h1.trans (Bw.of hu (by rw [hGd]; exact fun z hz => Nat.lt_of_lt_of_le hz.1 hx.le))
  have hSc := hS.ext hx;replace hSc : Var w5 gs (aK Fr.cells (pre ++ [(⟨fk,.slice pc kids.length cc,kids⟩ : Fr)]) ++ sps) 54 := by
   rcases hwhere with ⟨_,hu⟩ | ⟨_,hu⟩
   ·exact hSc.upd hu hne
   ·exact hSc.ext hu
  have hoE : 0 + (kids.length : Int).toNat * 3 = kids.length * 3 := by omega
  have hoS : 0 + (((pre.length + 1 : Nat) : Int) - 1).toNat * 3 + 2 = pre.length * 3 + 2 := by omega
  have hSl : (aK Fr.cells (pre ++ [(⟨fk,.slice pc kids.length cc,kids⟩ : Fr)]) ++ sps).length = (pre.length + 1) * 3 + sps.length := by rw [List.length_append,aQ Fr.len,hlen]
  have hKl : (aK Gt.cells kids ++ [Value.int .i64 0,Value.string ⟨#[]⟩,Value.slice none 0 0] ++ spk).length = kids.length * 3 + 3 + spk.length := by rw [List.length_append,List.length_append,aQ Gt.len]; rfl
  refine Qb.tameW (by kernel_rfl) 8 rfl (by kernel_rfl) trivial (bY fun wz => bI Tryz.underlying52 dA rfl rfl (by omega)) rfl ?_;refine Qb.tameW (by kernel_rfl) 10 rfl (by kernel_rfl) trivial (bY fun wz => aF rfl) rfl ?_;refine Qb.tameW (by kernel_rfl) 11 rfl (by kernel_rfl) trivial (bY fun wz => aA gE rfl) rfl ?_;refine Qb.alt2 (i := 9) (j := 12) (by kernel_rfl) ?_ ?_
  ·skip
   refine ⟨_,_,rfl,rfl,trivial,dZ (cs := [.int .i64 tk,.string tx,tc]) hvk rfl rfl rfl dA (by rw [hoE,hKl]; simp) hone,rfl,fun _ _ h => trivial,?_⟩;rintro _ wE ⟨huE,hvE⟩;rw [hoE] at hvE;replace hvE : Var wE gk (aK Gt.cells (kids ++ [.mk tk tx tc tks]) ++ spk) 54 := (zA (kids := kids) (t := .mk tk tx tc tks) (z := [Value.int .i64 0,Value.string ⟨#[]⟩,Value.slice none 0 0]) (sp := spk) rfl) ▸ hvE;clear hvk;have hvk := hvE;clear hvE;replace hSc := hSc.upd huE hne;replace hB := hB.trans (Bw.upd huE nGk);refine Qb.alt1 (i := 12) (by kernel_rfl) ?_;refine ⟨_,_,rfl,rfl,trivial,dZ (cs := [.slice (some ⟨gk,0,none⟩) (kids.length + 1) capk]) hSc rfl rfl rfl eH (by rw [hoS,hSl]; simp only [List.length_singleton]; omega) (by intro u hu; simp at hu; subst hu; rfl),rfl,fun _ _ h => trivial,?_⟩;rintro _ wS ⟨huS,hvS⟩;rw [hoS] at hvS;replace hvS : Var wS gs (aK Fr.cells (pre ++ [⟨fk,.slice (some ⟨gk,0,none⟩) (kids.length + 1) capk,kids ++ [.mk tk tx tc tks]⟩]) ++ sps) 54 := by
    have := oY (pre := pre) (f := ⟨fk,.slice pc kids.length cc,kids⟩) (sp := sps) (.slice (some ⟨gk,0,none⟩) (kids.length + 1) capk);rw [show aK Fr.cells (pre ++ [⟨fk,.slice (some ⟨gk,0,none⟩) (kids.length + 1) capk,kids ++ [.mk tk tx tc tks]⟩]) = aK Fr.cells (pre ++ [⟨fk,.slice (some ⟨gk,0,none⟩) (kids.length + 1) capk,kids⟩]) by simp [aK,Fr.cells],← this];exact hvS
   clear hSc;have hSc := hvS;clear hvS;replace hvk := hvk.upd huS (Ne.symm hne);replace hB := hB.trans (Bw.upd huS nGs);refine Qb.done (by kernel_rfl) ?_;exact ⟨(),.nil,_,hW.top (cv' := .slice (some ⟨gk,0,none⟩) (kids.length + 1) capk) (kids' := kids ++ [.mk tk tx tc tks]) hB (fun z h1 h2 h3 => by rw [hGd]; exact ⟨h1,fun e => h3 (by rw [e]; rfl),fun e => h2 (by rw [e]; rfl)⟩) (bK (Nat.zero_le _) (aQ Fr.len _ |>.trans (by simp)) gs1 gs2 gs3 hSc) (by rw [List.length_append]; exact bK (Nat.zero_le _) (aQ Gt.len _ |>.trans (by simp)) hck hmk hlk hvk) (fun b hb => by injection hb with hb; subst hb; exact hfr) (fun t hm => by
    rcases List.mem_append.1 hm with hm | hm
    ·exact hW.ok ⟨fk,.slice pc kids.length cc,kids⟩ (by simp) t hm
    ·obtain rfl : t = .mk tk tx tc tks := by simpa using hm
     exact ht)⟩
  ·skip
   refine ⟨_,_,rfl,rfl,trivial,dZ (cs := [.slice (some ⟨gk,0,none⟩) (kids.length + 1) capk]) hSc rfl rfl rfl eH (by rw [hoS,hSl]; simp only [List.length_singleton]; omega) (by intro u hu; simp at hu; subst hu; rfl),rfl,fun _ _ h => trivial,?_⟩;rintro _ wS ⟨huS,hvS⟩;rw [hoS] at hvS;replace hvS : Var wS gs (aK Fr.cells (pre ++ [⟨fk,.slice (some ⟨gk,0,none⟩) (kids.length + 1) capk,kids ++ [.mk tk tx tc tks]⟩]) ++ sps) 54 := by
    have := oY (pre := pre) (f := ⟨fk,.slice pc kids.length cc,kids⟩) (sp := sps) (.slice (some ⟨gk,0,none⟩) (kids.length + 1) capk);rw [show aK Fr.cells (pre ++ [⟨fk,.slice (some ⟨gk,0,none⟩) (kids.length + 1) capk,kids ++ [.mk tk tx tc tks]⟩]) = aK Fr.cells (pre ++ [⟨fk,.slice (some ⟨gk,0,none⟩) (kids.length + 1) capk,kids⟩]) by simp [aK,Fr.cells],← this];exact hvS
   clear hSc;have hSc := hvS;clear hvS;replace hvk := hvk.upd huS (Ne.symm hne);replace hB := hB.trans (Bw.upd huS nGs);refine Qb.alt1 (i := 9) (by kernel_rfl) ?_;refine ⟨_,_,rfl,rfl,trivial,dZ (cs := [.int .i64 tk,.string tx,tc]) hvk rfl rfl rfl dA (by rw [hoE,hKl]; simp) hone,rfl,fun _ _ h => trivial,?_⟩;rintro _ wE ⟨huE,hvE⟩;rw [hoE] at hvE;replace hvE : Var wE gk (aK Gt.cells (kids ++ [.mk tk tx tc tks]) ++ spk) 54 := (zA (kids := kids) (t := .mk tk tx tc tks) (z := [Value.int .i64 0,Value.string ⟨#[]⟩,Value.slice none 0 0]) (sp := spk) rfl) ▸ hvE;clear hvk;have hvk := hvE;clear hvE;replace hSc := hSc.upd huE hne;replace hB := hB.trans (Bw.upd huE nGk);refine Qb.done (by kernel_rfl) ?_;exact ⟨(),.nil,_,hW.top (cv' := .slice (some ⟨gk,0,none⟩) (kids.length + 1) capk) (kids' := kids ++ [.mk tk tx tc tks]) hB (fun z h1 h2 h3 => by rw [hGd]; exact ⟨h1,fun e => h3 (by rw [e]; rfl),fun e => h2 (by rw [e]; rfl)⟩) (bK (Nat.zero_le _) (aQ Fr.len _ |>.trans (by simp)) gs1 gs2 gs3 hSc) (by rw [List.length_append]; exact bK (Nat.zero_le _) (aQ Gt.len _ |>.trans (by simp)) hck hmk hlk hvk) (fun b hb => by injection hb with hb; subst hb; exact hfr) (fun t hm => by
    rcases List.mem_append.1 hm with hm | hm
    ·exact hW.ok ⟨fk,.slice pc kids.length cc,kids⟩ (by simp) t hm
    ·obtain rfl : t = .mk tk tx tc tks := by simpa using hm
     exact ht)⟩
 ·rintro L' wF ⟨_,hs,cv',h1,h2⟩
  exact ⟨[],trivial,⟨cv',(by rw [hlen]; exact h1),h2⟩⟩
theorem eA {α : Type} {f : α → List Value} {k : Nat} (hf : ∀ a,(f a).length = k) (l : List α) (i : Nat) (h : i < l.length) : ((aK f l).drop (i * k)).take k = f l[i] := by
 apply List.ext_getElem?;intro j;rw [List.getElem?_take]
 split
 ·rename_i hj
  rw [List.getElem?_drop,jS hf l i j h hj]
 ·rename_i hj
  rw [List.getElem?_eq_none (by rw [hf]; omega)]
theorem oJ {w : World} {k : Int} : Cl Tryz.prog 82 #[.int .i64 k] w (fun u w' => u = .bool (gG k) ∧ Ext w w') := by
 have hx := Ext.refl w;refine Cl.enter Tryz.func82 rfl Tryz.ntmps82 rfl rfl ?_
 by_cases h1 : k = 101
 ·skip
  refine .sr (.a2 rfl (.done (.sr (.m2 rfl (.t2 (aS rfl rfl h1) (.m2 rfl (.so rfl rfl (.so rfl rfl (.t2 (aJ rfl rfl) (.a2 rfl (.done (Wp.ret ?_))))))))))));exact ⟨[_],⟨rfl,trivial⟩,by subst h1; rfl,hx⟩
 ·skip
  refine .sr (.a2 rfl (.done (.sr (.m2 rfl (.t2 (aR rfl rfl h1) (.m2 rfl (.g2 (aP rfl) (.g2 (bM rfl rfl) (.t2 (aN rfl rfl) (.a2 rfl (.done (Wp.ret ?_))))))))))));exact ⟨[_],⟨rfl,trivial⟩,by by_cases h2 : k = 102 <;> simp [gG,h1,h2,Hx],hx⟩
theorem Ao {l : List Tok} {k : Nat} (h : k < l.length) : aO (l.drop k) = if gG l[k].1 then aO (l.drop (k + 1)) else l[k] := by
 rw [List.drop_eq_getElem_cons h];rfl
theorem E3 {w : World} {tv sv : Value} {aG : List Tok} {pos bP : Nat} (hT0 : SlC w tv 2 aG.length (aK Cz aG)) (hvar : Var w bP [tv,.int .i64 pos,sv] 82) (hp : pos ≤ aG.length) (hn : aG.length ≤ 1000000000) :
  Cl Tryz.prog 72 #[.pointer (some ⟨bP,0,none⟩)] w (fun u w' => u = .agg #[.int .i64 (aO (aG.drop pos)).1,.string (aO (aG.drop pos)).2] ∧ Ext w w') := by
 have hx := Ext.refl w;have hc := hvar.cells;refine Cl.enter Tryz.func72 rfl Tryz.ntmps72 rfl rfl (.sr (Rg.wd trivial (dB Tryz.zeroValue43 rfl) rfl ?_));rintro _ w1 ⟨b2,rfl,qb2,hx1,hv2⟩;replace hx := hx.ext hx1;refine .done (.sr (.m2 rfl (.t2 (aF rfl) (.t2 (aA fA rfl) (.t2 (aB bA rfl (bF.get (i := 1) (hc.ext hx) rfl)) (.a2 rfl (.done (.seq (Wp.block ?_)))))))));refine Wp.loop (ι := Nat) (fun k => [(0,.pointer (some ⟨bP,0,none⟩)),(2,.pointer (some ⟨b2,0,none⟩)),(3,.int .i64 k)])
  (fun k w' => k ≤ aG.length ∧ aO (aG.drop k) = aO (aG.drop pos) ∧ Ext w w' ∧ Var w' b2 [.int .i64 0,.string ⟨#[]⟩] 43) (fun k => aG.length - k) pos (by repeat (first | exact .nil | refine .cons rfl ?_)) ⟨hp,rfl,hx,hv2⟩ ?_
 clear hx hv2;rintro k w3 ⟨hk,hsg,hx,hv2⟩
 by_cases hlt : k < aG.length
 ·skip
  refine .seq (.sr (.m2 rfl (.m2 rfl (.t2 (aF rfl) (.t2 (aA gM rfl) (.t2 (aB mJ rfl (bF.get (i := 0) (hc.ext hx) rfl)) (.t2 (dD hT0 Tryz.underlying39 rfl) ?_)))))));refine .t2 (bN rfl rfl (by omega)) ?_;refine .m2 rfl (.g2 (aP rfl) (.g2 (aF rfl) (.g2 (aA gM rfl) (.g2 (aB mJ rfl (bF.get (i := 0) (hc.ext hx) rfl)) (.g2 (aP rfl) ?_)))));refine Rg.ix hT0 ⟨_,rfl,rfl⟩ rfl rfl Tryz.underlying39 mK (by omega) rfl ?_;intro bt21 ot21 ht21;replace ht21 := ht21.ext hx;rw [Int.toNat_natCast,eA lF aG k hlt] at ht21;refine .g2 (aA eV rfl) (.g2 (aB bA rfl (bF.get (i := 0) ht21 rfl)) (Rg.wd ⟨_,rfl,rfl⟩ (aC Tryz.call82 rfl oJ) rfl ?_));rintro _ w4 ⟨rfl,hx4⟩;replace hx := hx.ext hx4;replace hv2 := hv2.ext hx4;replace ht21 := ht21.ext hx4;refine .t2 (aJ rfl rfl) (.done ?_);have hs := Ao (l := aG) hlt
  cases htr : gG aG[k].1 with
  | true =>
   refine .condT rfl (Wp.skip (Wp.block (Wp.region (.m2 rfl ?_))));refine .t2 (bC rfl rfl (by omega)) ?_;refine .a2 rfl (.done ?_);rw [htr,if_pos rfl] at hs;exact ⟨k + 1,by repeat (first | exact .nil | refine .cons rfl ?_),⟨hlt,hs.symm.trans hsg,hx,hv2⟩,by omega⟩
  | false =>
   refine .condF rfl (Wp.exit (.seq (.sr (.m2 rfl (.m2 rfl (.t2 (aF rfl) (.t2 (aA gM rfl) (.t2 (aB mJ rfl (bF.get (i := 0) (hc.ext hx) rfl)) (.t2 (dD hT0 Tryz.underlying39 rfl) ?_)))))))));refine .t2 (aR rfl rfl (by omega)) ?_;refine .done (.condF rfl (Wp.skip (.sr (.m2 rfl (.t2 (aF rfl) (.t2 (aA gM rfl) (.t2 (aB mJ rfl (bF.get (i := 0) (hc.ext hx) rfl)) (.m2 rfl ?_))))))));refine Rg.ix hT0 trivial rfl rfl Tryz.underlying39 mK (by omega) rfl ?_;intro bt41 ot41 ht41;replace ht41 := ht41.ext hx;rw [Int.toNat_natCast,eA lF aG k hlt] at ht41;refine .t2 (bB rfl ht41 mK) (Rg.wn trivial (cW hv2 rfl rfl rfl mK rfl rfl) ?_);rintro _ wZ ⟨huZ,hv3⟩;replace hx : Ext w wZ := Ext.upd hx huZ (Nat.le_of_eq qb2.symm);refine .done (Wp.ret ?_);rw [htr] at hs;have hs : aO (aG.drop k) = aG[k] := hs;exact ⟨[_],⟨RV.cellA (vs := [_,_]) mK rfl hv3.cells,trivial⟩,by rw [← hsg,hs]; rfl,hx⟩
 ·skip
  refine .seq (.sr (.m2 rfl (.m2 rfl (.t2 (aF rfl) (.t2 (aA gM rfl) (.t2 (aB mJ rfl (bF.get (i := 0) (hc.ext hx) rfl)) (.t2 (dD hT0 Tryz.underlying39 rfl) ?_)))))));refine .t2 (bO rfl rfl (by omega)) ?_;refine .m2 rfl (.so rfl rfl (.so rfl rfl (.so rfl rfl (.so rfl rfl (.so rfl rfl (.so rfl rfl (.so rfl rfl (.so rfl rfl (.so rfl rfl (.t2 (aN rfl rfl) (.done (.condF rfl ?_))))))))))));refine Wp.exit (.seq (.sr (.m2 rfl (.m2 rfl (.t2 (aF rfl) (.t2 (aA gM rfl) (.t2 (aB mJ rfl (bF.get (i := 0) (hc.ext hx) rfl)) (.t2 (dD hT0 Tryz.underlying39 rfl) ?_))))))));refine .t2 (aS rfl rfl (by omega)) ?_;refine .done (.condT rfl (.sr (.t2 (cH (H2 _) rfl) (Rg.wn trivial (cW hv2 rfl rfl rfl mK rfl rfl) ?_))));rintro _ wZ ⟨huZ,hv3⟩;replace hx : Ext w wZ := Ext.upd hx huZ (Nat.le_of_eq qb2.symm);refine .done (Wp.ret ?_);have hs : aO (aG.drop k) = (100,fS) := by rw [List.drop_eq_nil_of_le (by omega)]; rfl
  exact ⟨[_],⟨RV.cellA (vs := [_,_]) mK rfl hv3.cells,trivial⟩,by rw [← hsg,hs]; rfl,hx⟩
theorem Ps.peek {w0 : World} {tv : Value} {aG : List Tok} {F : Fs} {w : World} {bP : Nat} {below : List (Int × List Tr)} {k : Int} {s : S} (hC : Cx w0 tv aG) (h : Ps w0 tv aG F w bP below k s) :
  Cl Tryz.prog 72 #[.pointer (some ⟨bP,0,none⟩)] w (fun u w' => u = .agg #[.int .i64 (aO s.rem).1,.string (aO s.rem).2] ∧ Ext w w') := by
 obtain ⟨g,h1,rfl,h2,h3,_⟩ := h;rw [← h2];exact E3 (hC.tok.ext h1.ext) h1.var h3 hC.few
section
variable {w0 : World} {tv : Value} {aG : List Tok} {F : Fs} {w : World} {bP : Nat} {below : List (Int × List Tr)} {k : Int} {s : S}
theorem bD (hC : Cx w0 tv aG) (h : Ps w0 tv aG F w bP below k s) {texts : List ByteArray} {bt : Nat} (ht : Var w bt (texts.map .string) 9) (hn : texts.length ≤ 1000) :
  Cl Tryz.prog 73 #[.pointer (some ⟨bP,0,none⟩),.slice (some ⟨bt,0,none⟩) texts.length texts.length] w (fun u w' => u = .bool (aV texts (aO s.rem)) ∧ Ext w w') := by
 have hx := Ext.refl w;obtain ⟨tk,tx,hs⟩ : ∃ tk tx,aO s.rem = (tk,tx) := ⟨_,_,rfl⟩;rw [hs];have hbt := ht.lt;have ht0 := ht;refine Cl.enter Tryz.func73 rfl Tryz.ntmps73 rfl rfl (.sr (.a2 rfl (.done (.sr (.m2 rfl (Rg.wd trivial (aC Tryz.call72 rfl (h.peek hC)) rfl ?_))))));rintro _ w1 ⟨rfl,hx1⟩;rw [hs];replace hx := hx.ext hx1;refine Rg.wd trivial (dB Tryz.zeroValue43 rfl) rfl ?_;have hlo := hx.le;rintro _ w2 ⟨b5,rfl,qb5,hx2,hv5⟩;replace hx := hx.ext hx2;refine Rg.wn trivial (cW hv5 rfl rfl rfl mK rfl rfl) ?_;rintro _ wZ ⟨huZ,hv5'⟩;have hc5 := hv5'.cells;replace hx : Ext w wZ := Ext.upd hx huZ (by omega);refine .done ?_;have hxz := Ext.refl wZ
 rcases (by omega : tk = 104 ∨ (tk ≠ 104 ∧ tk = 107) ∨ (tk ≠ 104 ∧ tk ≠ 107)) with h4 | ⟨h4,h7⟩ | ⟨h4,h7⟩
 ·skip
  refine .sr (.t2 (aA eV rfl) (.t2 (aB bA rfl (bF.get (i := 0) (hc5.ext hxz) rfl)) (.t2 (aS rfl rfl h4) (.m2 rfl (.so rfl rfl (.so rfl rfl (.so rfl rfl (.t2 (aJ rfl rfl) (.m2 rfl (.g2 (aP rfl) (.g2 (aA mL rfl) (.g2 (aB hY rfl (bF.get (i := 1) (hc5.ext hxz) rfl)) ?_))))))))))));refine Rg.wd ⟨_,rfl,rfl⟩ (aC Tryz.call57 rfl (Lexi.eL (by omega) (ht0.ext hx))) rfl ?_;rintro _ w3 ⟨rfl,rfl⟩;refine .t2 (aJ rfl rfl) (.a2 rfl (.done (Wp.ret ?_)));exact ⟨[_],⟨rfl,trivial⟩,by subst h4; rfl,hx⟩
 ·skip
  refine .sr (.t2 (aA eV rfl) (.t2 (aB bA rfl (bF.get (i := 0) (hc5.ext hxz) rfl)) (.t2 (aR rfl rfl h4) (.m2 rfl (.g2 (aA eV rfl) (.g2 (aB bA rfl (bF.get (i := 0) (hc5.ext hxz) rfl)) (.g2 (aS rfl rfl h7) (.t2 (aN rfl rfl) (.m2 rfl (.g2 (aP rfl) (.g2 (aA mL rfl) (.g2 (aB hY rfl (bF.get (i := 1) (hc5.ext hxz) rfl)) ?_))))))))))));refine Rg.wd ⟨_,rfl,rfl⟩ (aC Tryz.call57 rfl (Lexi.eL (by omega) (ht0.ext hx))) rfl ?_;rintro _ w3 ⟨rfl,rfl⟩;refine .t2 (aJ rfl rfl) (.a2 rfl (.done (Wp.ret ?_)));exact ⟨[_],⟨rfl,trivial⟩,by subst h7; rfl,hx⟩
 ·skip
  refine .sr (.t2 (aA eV rfl) (.t2 (aB bA rfl (bF.get (i := 0) (hc5.ext hxz) rfl)) (.t2 (aR rfl rfl h4) (.m2 rfl (.g2 (aA eV rfl) (.g2 (aB bA rfl (bF.get (i := 0) (hc5.ext hxz) rfl)) (.g2 (aR rfl rfl h7) (.t2 (aN rfl rfl) (.m2 rfl (.so rfl rfl (.so rfl rfl (.so rfl rfl ?_))))))))))));refine .so rfl rfl (.t2 (aN rfl rfl) (.a2 rfl (.done (Wp.ret ?_))));exact ⟨[_],⟨rfl,trivial⟩,by simp [aV,h4,h7,Hx],hx⟩
theorem fQ (hC : Cx w0 tv aG) (h : Ps w0 tv aG F w bP below k s) : Cl Tryz.prog 35 #[.pointer (some ⟨bP,0,none⟩)] w (fun u w' => u = .bool ((aO s.rem).1 == 100) ∧ Ext w w') := by
 have hx := Ext.refl w;refine Cl.enter Tryz.func35 rfl Tryz.ntmps35 rfl rfl (.sr (.a2 rfl (.done (.sr (.m2 rfl (Rg.wd trivial (aC Tryz.call72 rfl (h.peek hC)) rfl ?_))))));rintro _ w1 ⟨rfl,hx1⟩;replace hx := hx.ext hx1;refine .t2 (lQ rfl (fun w => rfl)) (.t2 (bM rfl rfl) (.a2 rfl (.done (Wp.ret ?_))));exact ⟨[_],⟨rfl,trivial⟩,by simp [Hx]; rfl,hx⟩
theorem bT (hC : Cx w0 tv aG) (h : Ps w0 tv aG F w bP below k s) : Cl Tryz.prog 161 #[.pointer (some ⟨bP,0,none⟩)] w (fun u w' => u = .bool ((aO s.rem).1 == 103) ∧ Ext w w') := by
 have hx := Ext.refl w;refine Cl.enter Tryz.func161 rfl Tryz.ntmps161 rfl rfl (.sr (.a2 rfl (.done (.sr (.m2 rfl (Rg.wd trivial (aC Tryz.call72 rfl (h.peek hC)) rfl ?_))))));rintro _ w1 ⟨rfl,hx1⟩;replace hx := hx.ext hx1;refine .t2 (lQ rfl (fun w => rfl)) (.t2 (bM rfl rfl) (.a2 rfl (.done (Wp.ret ?_))));exact ⟨[_],⟨rfl,trivial⟩,by simp [Hx]; rfl,hx⟩
end
variable {w0 : World} {tv : Value} {aG : List Tok} {F : Fs} {w w' : World} {bP : Nat} {below : List (Int × List Tr)} {k : Int} {s : S}
def fR : Nat := 1000000000
theorem jA {α β : Type} {f : α → β} {l : List α} {m : List β} {b : β} (h : l.map f = m ++ [b]) : ∃ pre a,l = pre ++ [a] ∧ pre.map f = m ∧ f a = b := by
 have hl : l.length = m.length + 1 := by have := congrArg List.length h; simpa using this
 have hne : l ≠ [] := fun e => by rw [e] at hl; simp at hl
 refine ⟨l.dropLast,l.getLast hne,(List.dropLast_concat_getLast hne).symm,?_,?_⟩
 ·rw [List.map_dropLast,h,List.dropLast_concat]
 ·have := List.getLast_map (f := f) (l := l) (by simpa using hne)
  rw [← this];simp only [h,List.getLast_concat]
theorem PsW.setPos {g : Pg} {p : Nat} (h : PsW w0 tv F w g) (hu : Upd g.bP w w') (hv : Var w' g.bP [tv,.int .i64 p,g.sv] 82) : PsW w0 tv F w' { g with pos := p } ∧ Bw F w w' := by
 obtain ⟨bP,sv,pos,frs,Q⟩ := g;simp only at hu hv;have hnod := h.nod;have hoff := h.off;have hm : bP ∈ Pg.muts ⟨bP,sv,pos,frs,Q⟩ := by simp [Pg.muts]
 have hb : Bw (fun z => z ≠ bP) w w' := Bw.upd hu fun hh => hh rfl;have hF : ∀ z,F z → z ≠ bP := fun z hz e => (hoff bP hm).1 (e ▸ hz);have hQ : ∀ z,Q z → z ≠ bP := fun z hz e => (hoff bP hm).2 (e ▸ hz);have hn := hnod;simp only [Pg.muts,List.nodup_cons] at hn;refine ⟨⟨(hb.sub hF).ext h.ext h.base,h.base,fun z hz => Nat.lt_of_lt_of_le (h.und z hz) hb.size,fun z hz => Nat.lt_of_lt_of_le (h.undQ z hz) hb.size,hv,fK h.stk hb fun b hb' e => hn.1 ?_,fun f hf => fK (h.kid f hf) hb fun b hb' e => hn.1 ?_,fun f hf t ht => (h.ok f hf t ht).bw (hb.sub hQ) fun _ hz => hz,hnod,hoff,h.fq⟩,hb.sub hF⟩
 ·subst e
  simp [hb']
 ·subst e
  exact List.mem_append_right _ (List.mem_flatMap.2 ⟨f,hf,by simp [hb']⟩)
theorem lS (w : World) (size : Nat) : SlC w (.slice none 0 0) size 0 [] := ⟨by simp,none,0,rfl,Nat.le_refl _,.inl rfl⟩
theorem kL (h : Ps w0 tv aG F w bP below k s) (hb : s.adds + 1 ≤ fR) {k' : Int} {x : ByteArray} :
  Cl Tryz.prog 134 #[.pointer (some ⟨bP,0,none⟩),.agg #[.int .i64 k',.string x,.slice none 0 0]] w (fun u w' => Ps w0 tv aG F w' bP below k { s with kids := s.kids ++ [.mk k' x []],adds := s.adds + 1 } ∧ Bw F w w') := by
 obtain ⟨g,h1,rfl,h2,h3,h4,h5,h6⟩ := h;obtain ⟨pre,f,hf,e1,e2⟩ := jA h4;have hk := h5 f (by rw [hf]; simp);have hl : g.frs.length = pre.length + 1 := by rw [hf]; simp
 unfold fR at hb;refine (C0 (t := .mk k' x (.slice none 0 0) []) h1 hf (.mk (lS _ _) rfl (fun b hb => by cases hb) fun g hg => by cases hg) (by omega) (by omega)).mono fun u w' ⟨cv',h7,h8⟩ => ⟨⟨_,h7,rfl,h2,h3,?_,?_,?_⟩,h8⟩
 ·simp only [List.map_append,e1,List.map_cons,List.map_nil]
  injection e2 with e3 e4
  rw [yY,e3,e4];rfl
 ·intro f' hf'
  simp only [List.mem_append,List.mem_singleton] at hf'
  rcases hf' with hf' | rfl
  ·have := h5 f' (by rw [hf]; simp [hf'])
   simp only;omega
  ·simp only [List.length_append,List.length_singleton]
   omega
 ·simp only [List.length_append,List.length_singleton]
  omega
theorem Ps.nonempty {t : Tok} {l : List Tok} (h : Ps w0 tv aG F w bP below k s) (hr : s.rem = t :: l) : ∃ g,PsW w0 tv F w g ∧ g.bP = bP ∧ ∃ hp : g.pos < aG.length,aG[g.pos] = t ∧ aG.drop (g.pos + 1) = l := by
 obtain ⟨g,h1,e,h2,h3,h4⟩ := h;rw [hr] at h2;have hp : g.pos < aG.length := by
  rcases Nat.lt_or_ge g.pos aG.length with c | c
  ·exact c
  ·rw [List.drop_eq_nil_of_le c] at h2
   cases h2
 rw [List.drop_eq_getElem_cons hp] at h2
 injection h2 with h5 h6
 exact ⟨g,h1,e,hp,h5,h6⟩
theorem oK (hC : Cx w0 tv aG) (h : Ps w0 tv aG F w bP below k s) {t : Tok} {l : List Tok} (hr : s.rem = t :: l) (hb : s.adds + 1 ≤ fR) :
  Cl Tryz.prog 83 #[.pointer (some ⟨bP,0,none⟩)] w (fun u w' => Ps w0 tv aG F w' bP below k { s with rem := l,kids := s.kids ++ [.tok t],adds := s.adds + 1 } ∧ Bw F w w') := by
 have hx := Ext.refl w;obtain ⟨g,h1,e0,hp,e1,e2⟩ := h.nonempty hr;have hvar := h1.var;rw [e0] at hvar;have hc := hvar.cells;have hT0 := hC.tok.ext h1.ext;obtain ⟨tk,tx⟩ := t;refine Cl.enter Tryz.func83 rfl Tryz.ntmps83 rfl rfl ?_;refine Wp.seq (Wp.draw [0,1,2,3,4,5,6,7,8,9,10,11,12,13,14,15,16,17,18,19,20,21,22,23,24] [0] mixed (by kernel_rfl) (by kernel_rfl) ?_);intro w1 hx1 _;replace hx := hx.ext hx1;refine .m2 rfl (.m2 rfl (.t2 (aF rfl) (.t2 (aA gM rfl) (.t2 (aB mJ rfl (bF.get (i := 0) (hc.ext hx) rfl)) (.m2 rfl (.t2 (aF rfl) (.t2 (aA fA rfl) (.t2 (aB bA rfl (bF.get (i := 1) (hc.ext hx) rfl)) ?_))))))));refine Rg.ix hT0 trivial rfl rfl Tryz.underlying39 mK (by omega) rfl ?_;intro bt11 ot11 ht11;replace ht11 := ht11.ext hx;rw [Int.toNat_natCast,eA lF aG g.pos hp,e1] at ht11;refine .t2 (aA eV rfl) (.t2 (aB bA rfl (bF.get (i := 0) ht11 rfl)) (.m2 rfl (.t2 (aF rfl) (.t2 (aA gM rfl) (.t2 (aB mJ rfl (bF.get (i := 0) (hc.ext hx) rfl)) (.m2 rfl (.t2 (aF rfl) (.t2 (aA fA rfl) (.t2 (aB bA rfl (bF.get (i := 1) (hc.ext hx) rfl)) ?_)))))))));refine Rg.ix hT0 trivial rfl rfl Tryz.underlying39 mK (by omega) rfl ?_;intro bt22 ot22 ht22;replace ht22 := ht22.ext hx;rw [Int.toNat_natCast,eA lF aG g.pos hp,e1] at ht22;refine .t2 (aA mL rfl) (.t2 (aB hY rfl (bF.get (i := 1) ht22 rfl)) (.t2 (cH (Cp _ _) rfl) ?_));refine pK trivial rfl (aC Tryz.call134 rfl (kL (h.extw hx) hb)) rfl (by rfl) ?_;rintro _ w2 ⟨hp2,hb2⟩;obtain ⟨g2,f1,f0,f2,f3,f4⟩ := hp2;have hpos : g2.pos = g.pos := by
  have q1 := congrArg List.length f2;have q2 := congrArg List.length e2;simp only [List.length_drop] at q1 q2;rw [hr,List.length_cons] at q1;omega
 rw [hpos] at f2 f3;have hv2 := f1.var;rw [f0,hpos] at hv2;have hc2 := hv2.cells;refine .done (Wp.region (.m2 rfl (.t2 (aF rfl) (.t2 (aA fA rfl) (.t2 (aB bA rfl (bF.get (i := 1) hc2 rfl)) ?_)))));refine .t2 (bC rfl rfl (by have := hC.few; omega)) ?_;refine .t2 (aF rfl) (.t2 (aA fA rfl) (Rg.wn trivial (cG hv2 bA rfl rfl rfl rfl rfl) ?_));rintro _ wZ ⟨huZ,hvZ⟩;simp only [List.set] at hvZ;refine .done ?_;have hpp : ((g.pos : Int) + 1) = ((g.pos + 1 : Nat) : Int) := by omega
 rw [hpp] at hvZ;obtain ⟨z1,z2⟩ := PsW.setPos f1 (by rw [f0]; exact huZ) (by rw [f0]; exact hvZ);exact ⟨[],trivial,⟨_,z1,f0,e2,hp,f4⟩,(Bw.of hx1 h.und).trans (hb2.trans z2)⟩
end Go.Proofs.YtlndmiegodcfjaaGreatDoor.Par
namespace Go.Proofs.YtlndmiegodcfjaaGreatDoor.Par
set_option maxRecDepth 20000
open Go.Gx Go.RowKit Go.Lib
open Lexi (Asc)
variable {w0 : World} {tv : Value} {aG : List Tok} {F : Fs} {w w' : World} {bP : Nat} {below : List (Int × List Tr)} {k : Int} {s : S}
def lX : List Tok → List Tok
 | [] => []
 | t :: l => if gG t.1 then t :: lX l else []
def lG : List Tok → List Tok
 | [] => []
 | t :: l => if gG t.1 then lG l else t :: l
def S.skipT (s : S) : S := { s with rem := lG s.rem,kids := s.kids ++ (lX s.rem).map .tok,adds := s.adds + (lX s.rem).length }
theorem xI {s : S} {t : Tok} {l : List Tok} (hr : s.rem = t :: l) (h : gG t.1 = true) : S.skipT { s with rem := l,kids := s.kids ++ [.tok t],adds := s.adds + 1 } = s.skipT := by
 simp only [S.skipT,hr,lX,lG,if_pos h,List.map_cons,List.append_assoc,List.singleton_append,List.length_cons]
 congr 1
 omega
theorem xJ {s : S} {t : Tok} {l : List Tok} (hr : s.rem = t :: l) (h : gG t.1 = false) : s.skipT = s := by
 obtain ⟨r,ks,f,a⟩ := s;simp only at hr;subst hr;simp [S.skipT,lX,lG,h]
theorem Ap {s : S} (hr : s.rem = []) : s.skipT = s := by
 obtain ⟨r,ks,f,a⟩ := s;simp only at hr;subst hr;simp [S.skipT,lX,lG]
theorem Aq {l : List Tok} {t : Tok} {m : List Tok} (h : lG l = t :: m) : gG t.1 = false ∧ fE l = lX l ++ [t] ∧ left l = m := by
 induction l with
 | nil => cases h
 | cons u l ih =>
  simp only [lG,fE,lX,left] at h ⊢
  split at h
  ·rename_i hu
   obtain ⟨h1,h2,h3⟩ := ih h;simp only [if_pos hu,h2,List.cons_append];exact ⟨h1,trivial,h3⟩
  ·rename_i hu
   injection h with h1 h2
   subst h1; subst h2;simp [hu]
theorem C1 {l : List Tok} (h : lG l = []) : fE l = lX l ∧ left l = [] := by
 induction l with
 | nil => exact ⟨rfl,rfl⟩
 | cons u l ih =>
  simp only [lG,fE,lX,left] at h ⊢
  split at h
  ·rename_i hu
   obtain ⟨h1,h2⟩ := ih h;simp only [if_pos hu,h1];exact ⟨trivial,h2⟩
  ·cases h
theorem nU {s : S} {t : Tok} {m : List Tok} (h : lG s.rem = t :: m) : s.bump = { s.skipT with rem := m,kids := s.skipT.kids ++ [.tok t],adds := s.skipT.adds + 1 } := by
 obtain ⟨_,h2,h3⟩ := Aq h;simp [S.bump,S.skipT,h2,h3,Nat.add_assoc]
theorem lT {s : S} (h : lG s.rem = []) : s.bump = s.skipT := by
 obtain ⟨h2,h3⟩ := C1 h;simp [S.bump,S.skipT,h2,h3,h]
theorem Ps.var (h : Ps w0 tv aG F w bP below k s) : ∃ g : Pg,PsW w0 tv F w g ∧ g.bP = bP ∧ aG.drop g.pos = s.rem ∧ g.pos ≤ aG.length ∧ Var w bP [tv,.int .i64 g.pos,g.sv] 82 := by
 obtain ⟨g,h1,e,h2,h3,_⟩ := h;exact ⟨g,h1,e,h2,h3,e ▸ h1.var⟩
theorem lY (hC : Cx w0 tv aG) (h : Ps w0 tv aG F w bP below k s) (hb : s.skipT.adds ≤ fR) :
  Cl Tryz.prog 37 #[.pointer (some ⟨bP,0,none⟩)] w (fun u w' => Ps w0 tv aG F w' bP below k s.skipT ∧ Bw F w w') := by
 refine Cl.enter Tryz.func37 rfl Tryz.ntmps37 rfl rfl (Wp.block ?_);refine Wp.loop (ι := S) (fun _ => [(0,.pointer (some ⟨bP,0,none⟩))])
  (fun s' w' => Ps w0 tv aG F w' bP below k s' ∧ Bw F w w' ∧ s'.skipT = s.skipT) (fun s' => s'.rem.length) s (by repeat (first | exact .nil | refine .cons rfl ?_)) ⟨h,Bw.refl _ _,rfl⟩ ?_
 clear h;rintro s' wl ⟨h,a,hsk⟩;have hx := Ext.refl wl;obtain ⟨g,h1,e0,h2,h3,hvar⟩ := h.var;have hc := hvar.cells;have hT0 := hC.tok.ext h1.ext
 by_cases hlt : g.pos < aG.length
 ·skip
  refine .seq ?_;refine Wp.seq (Wp.draw [0,1,2,3,4,5,6,7,8,9,10,11,12,13,14,15,16,17,18,19,20,21,22,23] [] mixed (by kernel_rfl) (by kernel_rfl) ?_);intro w1 hx1 _;replace hx := hx.ext hx1;refine .m2 rfl (.t2 (aF rfl) (.t2 (aA fA rfl) (.t2 (aB bA rfl (bF.get (i := 1) (hc.ext hx) rfl)) (.m2 rfl (.t2 (aF rfl) (.t2 (aA gM rfl) (.t2 (aB mJ rfl (bF.get (i := 0) (hc.ext hx) rfl)) (.t2 (dD hT0 Tryz.underlying39 rfl) ?_))))))));refine .t2 (bN rfl rfl (by omega)) ?_;refine .m2 rfl (.g2 (aP rfl) (.g2 (aF rfl) (.g2 (aA gM rfl) (.g2 (aB mJ rfl (bF.get (i := 0) (hc.ext hx) rfl)) (.g2 (aP rfl) (.g2 (aF rfl) (.g2 (aA fA rfl) (.g2 (aB bA rfl (bF.get (i := 1) (hc.ext hx) rfl)) ?_))))))));refine Rg.ix hT0 ⟨_,rfl,rfl⟩ rfl rfl Tryz.underlying39 mK (by omega) rfl ?_;intro bt21 ot21 ht21;replace ht21 := ht21.ext hx;rw [Int.toNat_natCast,eA lF aG g.pos hlt] at ht21;refine .g2 (aA eV rfl) (.g2 (aB bA rfl (bF.get (i := 0) ht21 rfl)) (Rg.wdB ⟨_,rfl,rfl⟩ rfl (aC Tryz.call82 rfl oJ) rfl (fun _ _ h => h.2) ?_));rintro _ w2 ⟨rfl,hx2⟩;replace hx := hx.ext hx2;replace ht21 := ht21.ext hx2;refine .t2 (aJ rfl rfl) (.done ?_);have hr : s'.rem = aG[g.pos] :: aG.drop (g.pos + 1) := by rw [← h2,List.drop_eq_getElem_cons hlt]
  cases htr : gG aG[g.pos].1 with
  | true =>
   have hst := (xI hr htr).trans hsk;refine .condT rfl (Wp.skip (Wp.block (Wp.region (.m2 rfl ?_))));refine Rg.wd trivial (aC Tryz.call83 rfl (oK hC (h.extw hx) hr (by have := congrArg S.adds hst; simp only [S.skipT] at this hb; omega))) rfl ?_;rintro _ wA ⟨hp2,hb2⟩;refine .done ?_;refine ⟨_,by repeat (first | exact .nil | refine .cons rfl ?_),⟨hp2,(a.trans (Bw.of hx h.und)).trans hb2,hst⟩,?_⟩;rw [hr];simp;omega
  | false =>
   refine .condF rfl (Wp.exit ?_);rw [xJ hr htr] at hsk;exact ⟨[],trivial,hsk ▸ h.extw hx,a.trans (Bw.of hx h.und)⟩
 ·skip
  refine .seq ?_;refine Wp.seq (Wp.draw [0,1,2,3,4,5,6,7,8,9,10,11,12,13,14,15,16,17,18,19,20,21,22,23] [] mixed (by kernel_rfl) (by kernel_rfl) ?_);intro w1 hx1 _;replace hx := hx.ext hx1;refine .m2 rfl (.t2 (aF rfl) (.t2 (aA fA rfl) (.t2 (aB bA rfl (bF.get (i := 1) (hc.ext hx) rfl)) (.m2 rfl (.t2 (aF rfl) (.t2 (aA gM rfl) (.t2 (aB mJ rfl (bF.get (i := 0) (hc.ext hx) rfl)) (.t2 (dD hT0 Tryz.underlying39 rfl) ?_))))))));refine .t2 (bO rfl rfl (by omega)) ?_;refine .m2 rfl (.so rfl rfl (.so rfl rfl (.so rfl rfl (.so rfl rfl (.so rfl rfl (.so rfl rfl (.so rfl rfl (.so rfl rfl (.so rfl rfl (.so rfl rfl (.so rfl rfl (.so rfl rfl ?_))))))))))));refine .t2 (aN rfl rfl) (.done (.condF rfl (Wp.exit ?_)));have hr : s'.rem = [] := by rw [← h2,List.drop_eq_nil_of_le (by omega)]
  rw [Ap hr] at hsk;exact ⟨[],trivial,hsk ▸ h.extw hx,a.trans (Bw.of hx h.und)⟩
theorem sV (hC : Cx w0 tv aG) (h : Ps w0 tv aG F w bP below k s) (hb : s.bump.adds ≤ fR) :
  Cl Tryz.prog 80 #[.pointer (some ⟨bP,0,none⟩)] w (fun u w' => Ps w0 tv aG F w' bP below k s.bump ∧ Bw F w w') := by
 have hsb : s.skipT.adds ≤ s.bump.adds := by
  cases hp : lG s.rem with
  | nil => rw [lT hp]; exact Nat.le_refl _
  | cons t m => rw [nU hp]; simp
 refine Cl.enter Tryz.func80 rfl Tryz.ntmps80 rfl rfl (.sr (.m2 rfl (Rg.wd trivial (aC Tryz.call37 rfl (lY hC h (Nat.le_trans hsb hb))) rfl ?_)));rintro _ w1 ⟨hp1,hb1⟩;have hx := Ext.refl w1;obtain ⟨g,h1,e0,h2,h3,hvar⟩ := hp1.var;have hc := hvar.cells;have hT0 := hC.tok.ext h1.ext;refine .done ?_
 cases hpast : lG s.rem with
 | nil =>
  have hq : aG.drop g.pos = lG s.rem := h2;rw [hpast] at hq;have hlt : ¬ g.pos < aG.length := by
   intro hh;rw [List.drop_eq_getElem_cons hh] at hq
   cases hq
  refine Wp.seq (Wp.draw [0,1,2,3,4,5,6,7,8,9] [] mixed (by kernel_rfl) (by kernel_rfl) ?_);intro w2 hx2 _;replace hx := hx.ext hx2;refine .m2 rfl (.t2 (aF rfl) (.t2 (aA fA rfl) (.t2 (aB bA rfl (bF.get (i := 1) (hc.ext hx) rfl)) (.m2 rfl (.t2 (aF rfl) (.t2 (aA gM rfl) (.t2 (aB mJ rfl (bF.get (i := 0) (hc.ext hx) rfl)) (.t2 (dD hT0 Tryz.underlying39 rfl) ?_))))))));refine .t2 (bO rfl rfl (by omega)) ?_;refine .done (.condF rfl (Wp.skip ?_));rw [lT hpast];exact ⟨[],trivial,hp1.extw hx,hb1.trans (Bw.of hx hp1.und)⟩
 | cons t m =>
  have hq : aG.drop g.pos = lG s.rem := h2;rw [hpast] at hq;have hlt : g.pos < aG.length := by
   rcases Nat.lt_or_ge g.pos aG.length with hh | hh
   ·exact hh
   ·rw [List.drop_eq_nil_of_le hh] at hq
    cases hq
  refine Wp.seq (Wp.draw [0,1,2,3,4,5,6,7,8,9] [] mixed (by kernel_rfl) (by kernel_rfl) ?_);intro w2 hx2 _;replace hx := hx.ext hx2;refine .m2 rfl (.t2 (aF rfl) (.t2 (aA fA rfl) (.t2 (aB bA rfl (bF.get (i := 1) (hc.ext hx) rfl)) (.m2 rfl (.t2 (aF rfl) (.t2 (aA gM rfl) (.t2 (aB mJ rfl (bF.get (i := 0) (hc.ext hx) rfl)) (.t2 (dD hT0 Tryz.underlying39 rfl) ?_))))))));refine .t2 (bN rfl rfl (by omega)) ?_;refine .done (.condT rfl (Wp.region (.m2 rfl ?_)));refine Rg.wd trivial (aC Tryz.call83 rfl (oK hC (hp1.extw hx) (show s.skipT.rem = t :: m from hpast) (by rw [nU hpast] at hb; exact hb))) rfl ?_;rintro _ w9 ⟨hp2,hb2⟩;refine .done ?_;rw [nU hpast];exact ⟨[],trivial,hp2,hb1.trans ((Bw.of hx hp1.und).trans hb2)⟩
end Go.Proofs.YtlndmiegodcfjaaGreatDoor.Par
namespace Go.Proofs.YtlndmiegodcfjaaGreatDoor.Par
open Go.Gx Go.RowKit Go.Lib
open Lexi (Asc)
variable {w0 : World} {tv : Value} {F : Fs} {w w' : World}
theorem PsW.push {G Q : Fs} {bP pos : Nat} {sv sv' : Value} {frs : List Fr} {f : Fr} (h : PsW w0 tv F w ⟨bP,sv,pos,frs,Q⟩) (hw : Bw G w w') (hG : ∀ z,z < w.heap.size → z ≠ bP → some z ≠ sv'.ownBlock → G z)
  (hv : Var w' bP [tv,.int .i64 pos,sv'] 82) (hS : w'.ownsRow 0 54 3 sv' (frs.length + 1) (aK Fr.cells (frs ++ [f]))) (hfr : ∀ b,sv'.ownBlock = some b → sv.ownBlock = some b ∨ w.heap.size ≤ b) (hK : w'.ownsRow 0 54 3 f.cv f.kids.length (aK Gt.cells f.kids))
  (hcv : ∀ b,f.cv.ownBlock = some b → w.heap.size ≤ b ∧ some b ≠ sv'.ownBlock) (hok : ∀ t ∈ f.kids,GOk Q w t) : PsW w0 tv F w' ⟨bP,sv',pos,frs ++ [f],Q⟩ ∧ Bw F w w' := by
 have hlt := h.lt;have hnod := h.nod;have hoff := h.off;simp only [Pg.muts] at hlt hnod hoff;have hbP : bP < w.heap.size := hlt bP (by simp);have hnb := List.nodup_cons.1 hnod;have hna := List.nodup_append.1 hnb.2;have hsv : ∀ b,sv'.ownBlock = some b → (b ∈ sv.ownBlock.toList ∨ w.heap.size ≤ b) := fun b hb => (hfr b hb).imp (fun e => by simp [e]) id;have hsvF : ∀ z,(F z ∨ Q z) → some z ≠ sv'.ownBlock := fun z hz e => by
  rcases hsv z e.symm with e1 | e1
  ·have := hoff z (List.mem_cons_of_mem _ (List.mem_append_left _ e1))
   exact hz.elim this.1 this.2
  ·rcases hz with hz | hz
   ·have := h.und z hz
    omega
   ·have : z < w.heap.size := h.undQ z hz
    omega
 have hFG : ∀ z,F z → G z := fun z hz => hG z (h.und z hz) (fun e => (hoff bP (by simp)).1 (e ▸ hz)) (hsvF z (.inl hz));have hQG : ∀ z,Q z → G z := fun z hz => hG z (h.undQ z hz) (fun e => (hoff bP (by simp)).2 (e ▸ hz)) (hsvF z (.inr hz));have hkb : ∀ z,z ∈ frs.flatMap (fun f => f.cv.ownBlock.toList) → some z ≠ sv'.ownBlock := fun z hz e => by
  rcases hsv z e.symm with e1 | e1
  ·exact hna.2.2 z e1 z hz rfl
  ·have := hlt z (by simp only [List.mem_cons,List.mem_append]; exact .inr (.inr hz))
   omega
 refine ⟨⟨(hw.sub hFG).ext h.ext h.base,h.base,fun z hz => Nat.lt_of_lt_of_le (h.und z hz) hw.size,fun z hz => Nat.lt_of_lt_of_le (h.undQ z hz) hw.size,hv,by simpa using hS,fun x hx => ?_,fun x hx t ht => ?_,?_,fun b hb => ?_,h.fq⟩,hw.sub hFG⟩
 ·rcases List.mem_append.1 hx with hx | hx
  ·refine fK (h.kid x hx) hw fun b hb => ?_
   have hm : b ∈ frs.flatMap fun f => f.cv.ownBlock.toList := List.mem_flatMap.2 ⟨x,hx,by simp [hb]⟩;refine hG b (hlt b (by simp only [List.mem_cons,List.mem_append]; exact .inr (.inr hm))) (fun e => hnb.1 ?_) (hkb b hm);subst e;exact List.mem_append_right _ hm
  ·obtain rfl : x = f := by simpa using hx
   exact hK
 ·rcases List.mem_append.1 hx with hx | hx
  ·exact (h.ok x hx t ht).bw (hw.sub hQG) fun _ hz => hz
  ·obtain rfl : x = f := by simpa using hx
   exact (hok t ht).bw (hw.sub hQG) fun _ hz => hz
 ·rw [gF]
  refine List.nodup_append.2 ⟨List.nodup_cons.2 ⟨fun hm => ?_,List.nodup_append.2 ⟨?_,hna.2.1,fun a ha b hb e => ?_⟩⟩,?_,fun a ha b hb e => ?_⟩
  ·rcases List.mem_append.1 hm with hm | hm
   ·rcases hsv bP (by simpa using hm) with e1 | e1
    ·exact hnb.1 (List.mem_append_left _ e1)
    ·omega
   ·exact hnb.1 (List.mem_append_right _ hm)
  ·cases sv'.ownBlock <;> simp
  ·subst e
   have ha : sv'.ownBlock = some a := by simpa using ha
   exact hkb a hb ha.symm
  ·cases f.cv.ownBlock <;> simp
  ·subst e
   have hb : f.cv.ownBlock = some a := by simpa using hb
   obtain ⟨c1,c2⟩ := hcv a hb
   rcases List.mem_cons.1 ha with rfl | ha
   ·omega
   ·rcases List.mem_append.1 ha with ha | ha
    ·have ha : sv'.ownBlock = some a := by simpa using ha
     exact c2 ha.symm
    ·have := hlt a (by simp only [List.mem_cons,List.mem_append]; exact .inr (.inr ha))
     omega
 ·rw [gF] at hb
  have young : w.heap.size ≤ b → ¬ F b ∧ ¬ Q b := fun hy => ⟨fun hF => by have := h.und b hF; omega,fun hF => by have : b < w.heap.size := h.undQ b hF; omega⟩
  rcases List.mem_append.1 hb with hb | hb
  ·rcases List.mem_cons.1 hb with rfl | hb
   ·exact hoff b (by simp)
   ·rcases List.mem_append.1 hb with hb | hb
    ·rcases hsv b (by simpa using hb) with e1 | e1
     ·exact hoff b (List.mem_cons_of_mem _ (List.mem_append_left _ e1))
     ·exact young e1
    ·exact hoff b (List.mem_cons_of_mem _ (List.mem_append_right _ hb))
  ·exact young (hcv b (by simpa using hb)).1
theorem PsW.pop {Q : Fs} {bP pos : Nat} {sv sv' : Value} {pre : List Fr} {f : Fr} (h : PsW w0 tv F w ⟨bP,sv,pos,pre ++ [f],Q⟩) (hu : Upd bP w w') (hv : Var w' bP [tv,.int .i64 pos,sv'] 82) (hsv : sv'.ownBlock = sv.ownBlock) (hS : w.ownsRow 0 54 3 sv' pre.length (aK Fr.cells pre)) :
  PsW w0 tv F w' ⟨bP,sv',pos,pre,fun z => Q z ∨ f.cv.ownBlock = some z⟩ ∧ GOk (fun z => Q z ∨ f.cv.ownBlock = some z) w' (.mk f.kind fS f.cv f.kids) ∧ Bw F w w' := by
 have hlt := h.lt;have hnod := h.nod;have hoff := h.off;rw [gF] at hlt hnod hoff;have hn := List.nodup_append.1 hnod;have hnb := List.nodup_cons.1 hn.1;have hb : Bw (fun z => z ≠ bP) w w' := Bw.upd hu fun hh => hh rfl;have hF : ∀ z,F z → z ≠ bP := fun z hz e => (hoff bP (by simp)).1 (e ▸ hz);have hfc : ∀ z,f.cv.ownBlock = some z → z ≠ bP := fun z hz e => hn.2.2 bP (by simp) z (by simp [hz]) e.symm;have hQ : ∀ z,(Q z ∨ f.cv.ownBlock = some z) → z ≠ bP := fun z hz e => hz.elim (fun hz => (hoff bP (by simp)).2 (e ▸ hz)) fun hz => hfc z hz e;have hone : f.cv.oneCell' = true := by
  rcases bH (h.kid f (by simp)) with ⟨e,_⟩ | ⟨_,_,_,e,_⟩ <;> rw [e] <;> rfl
 refine ⟨⟨(hb.sub hF).ext h.ext h.base,h.base,fun z hz => Nat.lt_of_lt_of_le (h.und z hz) hb.size,fun z hz => Nat.lt_of_lt_of_le ?_ hb.size,hv,fK hS hb fun b hb' e => hnb.1 ?_,fun x hx => fK (h.kid x (by simp [hx])) hb fun b hb' e => hnb.1 ?_,fun x hx t ht => ((h.ok x (by simp [hx]) t ht).mono fun z hz => .inl hz).bw (hb.sub hQ) fun _ hz => hz,?_,fun b hb' => ?_,fun z hz hq => hq.elim (h.fq z hz) fun e => (hoff z (List.mem_append_right _ (by simp [e]))).1 hz⟩,.mk (iL (iP (h.kid f (by simp))) (hb.sub hQ) fun z hz => .inr hz) hone (fun z hz => .inr hz) (fun t ht => ((h.ok f (by simp) t ht).mono fun z hz => .inl hz).bw (hb.sub hQ) fun _ hz => hz),hb.sub hF⟩
 ·rcases hz with hz | hz
  ·exact h.undQ z hz
  ·exact hlt z (List.mem_append_right _ (by simp [hz]))
 ·subst e
  rw [hsv] at hb';exact List.mem_append_left _ (by simp [hb'])
 ·subst e
  exact List.mem_append_right _ (List.mem_flatMap.2 ⟨x,hx,by simp [hb']⟩)
 ·simp only [Pg.muts,hsv]
  exact hn.1
 ·simp only [Pg.muts,hsv] at hb'
  have := hoff b (List.mem_append_left _ hb');refine ⟨this.1,fun hz => hz.elim this.2 fun hz => ?_⟩;exact hn.2.2 b hb' b (by simp [hz]) rfl
end Go.Proofs.YtlndmiegodcfjaaGreatDoor.Par
namespace Go.Proofs.YtlndmiegodcfjaaGreatDoor.Par
set_option maxRecDepth 20000
open Go.Gx Go.RowKit Go.Lib
open Lexi (Asc)
variable {w0 : World} {tv : Value} {aG : List Tok} {F : Fs} {w w' : World} {bP : Nat} {below : List (Int × List Tr)} {k : Int} {s : S}
theorem lH {frs : List Fr} {f : Fr} {z sp : List Value} (hz : z.length = 3) : (aK Fr.cells frs ++ z ++ sp).take (frs.length * 3) ++ f.cells ++ (aK Fr.cells frs ++ z ++ sp).drop (frs.length * 3 + f.cells.length) = aK Fr.cells (frs ++ [f]) ++ sp := by
 have hl : (aK Fr.cells frs).length = frs.length * 3 := aQ Fr.len _;rw [fF,iF,← hl,Fr.len,List.append_assoc,List.append_assoc,List.take_left,List.drop_append,List.drop_eq_nil_of_le (by omega),List.nil_append,Nat.add_sub_cancel_left,List.drop_append,List.drop_eq_nil_of_le (by omega),List.nil_append,hz,Nat.sub_self,List.drop_zero,List.append_assoc]
theorem Ps.kids_le (h : Ps w0 tv aG F w bP below k s) : s.kids.length ≤ s.adds := by
 obtain ⟨g,h1,e,h2,h3,h4,h5,h6⟩ := h;obtain ⟨pre,f,hf,e1,e2⟩ := jA h4;have := h5 f (by rw [hf]; simp)
 injection e2 with e3 e4
 rw [← e4,oX];exact this
theorem jT {k' : Int} {r : S} (h : Ps w0 tv aG F w bP (below ++ [(k,s.kids)]) k' r) (h1 : s.kids.length + 1 ≤ r.adds) (hb : r.adds ≤ fR) :
  Cl Tryz.prog 123 #[.pointer (some ⟨bP,0,none⟩)] w (fun u w' => Ps w0 tv aG F w' bP below k { r with kids := s.kids ++ [.mk k' fS r.kids] } ∧ Bw F w w') := by
 obtain ⟨g,hW,e0,hd,hpos,hm,hks,hfl⟩ := h;obtain ⟨pre,f,hf,em,e2⟩ := jA hm;obtain ⟨gP,sv,pos,frs,Q⟩ := g;simp only at hf e0 hd hpos em hks hfl;subst hf e0;have hU := hW.und;unfold fR at hb;have hvar := hW.var;simp only at hvar
 rcases bH hW.stk with ⟨_,h0⟩ | ⟨gs,caps,sps,es,_,gs1,gs2,gs3,hS⟩
 ·simp at h0
 simp only at es gs1 gs3 hS;subst es;have hlen : (pre ++ [f]).length = pre.length + 1 := by simp
 rw [hlen] at gs1 gs3 hvar hW hfl;have hx := Ext.refl w;have hc := hvar.cells;have htop : bF w gs (0 + ((pre.length + 1 : Nat) - 1 : Int).toNat * 3) f.cells := fun j v hv => by
  have hj : j < 3 := by have := (List.getElem?_eq_some_iff.1 hv).1; rw [Fr.len] at this; exact this
  have := hS.cells _ _ ((mZ (pre := pre) (f := f) (sp := sps) j hj).trans hv);rw [Nat.zero_add] at this;rw [show 0 + ((pre.length + 1 : Nat) - 1 : Int).toNat * 3 + j = pre.length * 3 + j by omega];exact this
 refine Cl.enter Tryz.func123 rfl Tryz.ntmps123 rfl rfl ?_;have hfo : f.cv.oneCell' = true := by
  rcases bH (hW.kid f (by simp)) with ⟨e,_⟩ | ⟨_,_,_,e,_⟩ <;> rw [e] <;> rfl
 refine .sr (.m2 rfl (.t2 (aF rfl) (.t2 (aA eI rfl) (.t2 (aB eH rfl (bF.get (i := 2) (hc.ext hx) rfl)) (.t2 (dC Tryz.underlying52 rfl) ?_)))));refine .t2 (eG rfl rfl (by omega)) ?_;refine .a2 rfl (.done (.sr (.m2 rfl (.t2 (aF rfl) (.t2 (aA eI rfl) (.t2 (aB eH rfl (bF.get (i := 2) (hc.ext hx) rfl)) (.m2 rfl ?_)))))));refine .t2 (bI Tryz.underlying52 dA rfl rfl (by omega)) ?_;refine .t2 (bB rfl (htop.ext hx) dA) (Rg.wd trivial (dB Tryz.zeroValue54 rfl) rfl ?_);rintro _ w1 ⟨b3,rfl,qb3,hx1,hv3⟩;have hlo := hx.le;replace hx := hx.ext hx1;refine Rg.wn trivial (cW hv3 rfl rfl rfl dA rfl (by simp [Fr.cells,Value.oneCell']; exact hfo)) ?_;rintro _ w2 ⟨hu2,hv3'⟩;replace hx : Ext w w2 := Ext.upd hx hu2 (by omega);have hc3 := hv3'.cells;have hW2 := hW.extw hx;have hS2 := hS.ext hx;have a := hvar.ext hx;refine .done (.sr (.m2 rfl (.m2 rfl (.t2 (aF rfl) (.t2 (aA eI rfl) (.t2 (aB eH rfl (bF.get (i := 2) (hc.ext hx) rfl)) (.m2 rfl ?_)))))));refine .t2 (dG Tryz.underlying52 dA rfl rfl rfl (by omega)) ?_;refine .t2 (aF rfl) (.t2 (aA eI rfl) (Rg.wn trivial (cG a eH rfl rfl rfl rfl rfl) ?_));rintro _ w3 ⟨hu3,hv4⟩;simp only [List.set] at hv4;have e5 : Value.slice (some (if caps = (0 : Int).toNat then (⟨gs,0,none⟩ : Addr) else ⟨gs,0 + (0 : Int).toNat * 3,none⟩)) ((((pre.length + 1 : Nat) : Int) - 1).toNat - (0 : Int).toNat) (caps - (0 : Int).toNat) = .slice (some ⟨gs,0,none⟩) pre.length caps := by
  rw [if_neg (by simp; omega),show ((((pre.length + 1 : Nat) : Int) - 1).toNat - (0 : Int).toNat) = pre.length by omega,show caps - (0 : Int).toNat = caps by omega,show 0 + (0 : Int).toNat * 3 = 0 by omega]
 rw [e5] at hv4;obtain ⟨q1,q2,q3⟩ := PsW.pop hW2 hu3 hv4 rfl (bK (sp := f.cells ++ sps) (Nat.zero_le _) (aQ Fr.len _) (by omega) gs2 (by rw [List.length_append,Fr.len,gs3]; omega) (by rw [← List.append_assoc]; have := hS2; rw [fF,iF] at this; exact this));have hc3' := hc3.upd hu3 (by have := hvar.lt; omega);obtain ⟨pre2,f2,hf2,em2,ef2⟩ := jA em;refine .done (Wp.region (.m2 rfl (.t2 (bB rfl hc3' dA) ?_)));refine Rg.wd trivial (aC Tryz.call134 rfl (C0 (t := .mk f.kind fS f.cv f.kids) q1 hf2 q2 (by have := hks f2 (by simp [hf2]); omega) (by have := congrArg List.length hf2; simp at this; omega))) rfl ?_;rintro _ w4 ⟨cv',q4,q5⟩;refine .done ?_
 injection e2 with ek ekid
 injection ef2 with ek2 ekid2
 refine ⟨[],trivial,⟨_,q4,rfl,hd,hpos,?_,?_,?_⟩,(Bw.of hx hU).trans (q3.trans q5)⟩
 ·simp only [List.map_append,List.map_cons,List.map_nil,em2,ek2]
  rw [yY,ekid2];simp [kS,Gt.er,ek,ekid]
 ·intro x hx'
  rcases List.mem_append.1 hx' with hx' | hx'
  ·exact hks x (by rw [hf2]; simp [hx'])
  ·obtain rfl : x = ⟨f2.kind,cv',f2.kids ++ [.mk f.kind fS f.cv f.kids]⟩ := by simpa using hx'
   have := congrArg List.length ekid2;rw [oX] at this;simp only [List.length_append,List.length_singleton];omega
 ·have := congrArg List.length hf2
  simp at this ⊢;omega
end Go.Proofs.YtlndmiegodcfjaaGreatDoor.Par
namespace Go.Proofs.YtlndmiegodcfjaaGreatDoor.Par
set_option maxRecDepth 20000
open Go.Gx Go.RowKit Go.Lib
open Lexi (Asc)
variable {w0 : World} {tv : Value} {aG : List Tok} {F : Fs} {w w' : World} {bP : Nat} {below : List (Int × List Tr)} {k : Int} {s : S}
def Part (w0 : World) (tv : Value) (aG : List Tok) (F : Fs) (bP : Nat) (cf : FuncId) (fst cap : List Value) (w : World) (below : List (Int × List Tr)) (k : Int) (s r : S) : Prop :=
 ∀ w1,Bw F w w1 → Ps w0 tv aG F w1 bP below k s → Cl Tryz.prog cf (fst ++ ([] : List Value) ++ cap).toArray w1 (fun u w2 => Ps w0 tv aG F w2 bP below k r ∧ Bw F w1 w2)
theorem sW {k' : Int} {r : S} {cf : FuncId} {fst cap : List Value} (hcf : ∀ (args : Array Value) (w : World),(callFunc cf args).run Tryz.prog w = .ok (.enter cf args) w) (h : Ps w0 tv aG F w bP below k s)
  (hP : Part w0 tv aG F bP cf fst cap w (below ++ [(k,s.kids)]) k' { s with kids := [],adds := s.adds + 1 } r) (h1 : s.adds + 1 ≤ r.adds) (hb : r.adds ≤ fR) :
  Cl Tryz.prog 77 #[.pointer (some ⟨bP,0,none⟩),.int .i64 k',.func (.func cf) fst.toArray cap.toArray] w (fun u w' => Ps w0 tv aG F w' bP below k { r with kids := s.kids ++ [.mk k' fS r.kids] } ∧ Bw F w w') := by
 have hk1 := h.kids_le;have hU := h.und;obtain ⟨g,hW,e0,hd,hpos,hm,hks,hfl⟩ := h;obtain ⟨gP,sv,pos,frs,Q⟩ := g;simp only at e0 hd hpos hm hks hfl;subst e0;have hb' : s.adds + 1 ≤ 1000000000 := by unfold fR at hb; omega
 have hvar := hW.var;have hown := hW.stk;simp only at hvar hown;obtain ⟨pc,cc,rfl⟩ : ∃ pc cc,sv = .slice pc frs.length cc := by
  rcases bH hown with ⟨rfl,e⟩ | ⟨_,_,_,rfl,_⟩
  ·exact ⟨none,0,by rw [e]⟩
  ·exact ⟨_,_,rfl⟩
 have hx := Ext.refl w;obtain ⟨i25,hi25,hz25,hsi25,hby25⟩ := rJ;refine Cl.enter Tryz.func77 rfl Tryz.ntmps77 rfl rfl ?_;refine Wp.seq (Wp.cut (fun L w' => ∃ i_ : Unit,Sub ((fun _ => [(0,.pointer (some ⟨gP,0,none⟩)),(1,.int .i64 k'),(2,.func (.func cf) fst.toArray cap.toArray)]) i_) L ∧ (fun _ w' => ∃ sv',PsW w0 tv F w' { bP := gP,sv := sv',pos := pos,frs := frs ++ [⟨k',.slice none 0 0,[]⟩],Q := Q } ∧ Bw F w w') i_ w') ?_ ?_)
 ·skip
  refine Wp.drawB (fun w' => Var w' gP [tv,.int .i64 pos,.slice pc frs.length cc] 82) 8 mixed ?_;intro w1 hx1 hh1;replace hx := hx.ext hx1;refine ⟨hvar.ext hx,?_⟩;refine Qb.tameW (by kernel_rfl) 0 rfl (by kernel_rfl) trivial (bY fun wz => aP rfl) rfl ?_;refine Qb.tameW (by kernel_rfl) 1 rfl (by kernel_rfl) trivial (bY fun wz => aF rfl) rfl ?_;refine Qb.tameW (by kernel_rfl) 2 rfl (by kernel_rfl) trivial (bY fun wz => aA eI rfl) rfl ?_;refine Qb.tame (by kernel_rfl) 3 rfl (by kernel_rfl) trivial (ts fun wz hkz => by exact aB eH rfl (hkz.g 2 rfl)) rfl ?_;refine Qb.tameW (by kernel_rfl) 4 rfl (by kernel_rfl) trivial (bY fun wz => aP rfl) rfl ?_;refine Qb.tameW (by kernel_rfl) 5 rfl (by kernel_rfl) trivial (bY fun wz => cH (mM _) rfl) rfl ?_;refine Qb.tame (by kernel_rfl) 6 rfl (by kernel_rfl) trivial (ts fun wz hkz => by exact dC Tryz.underlying52 rfl) rfl ?_;refine Qb.alt1 (i := 7) (by kernel_rfl) ?_;refine ⟨_,_,rfl,rfl,trivial,aD (jH _ _ _ _ _) rfl,rfl,fun _ _ hr => by obtain ⟨_,_,_,hr,_⟩ := hr; exact hvar.ext (hx.ext hr),?_⟩;rintro _ w2 ⟨b13,rfl,q13,hx2,hv13⟩;replace hx := hx.ext hx2;refine Qb.bar (fun _ => True) 8 14 rfl (by kernel_rfl) rfl trivial (bL Tryz.underlying52 hi25 hz25 hsi25 hby25 rfl rfl rfl (cM hown hx) (bX hv13 rfl) (by decide) (by decide) (by unfold maxLen; omega) (by omega)) rfl (fun _ _ _ => trivial) ?_;rintro _ w3 ⟨gk,capk,spk,rfl,hck,hmk,hlk,hvk,hwhere⟩;have hfr : (Value.slice pc frs.length cc).ownBlock = some gk ∨ w.heap.size ≤ gk := by
   rcases hwhere with ⟨⟨c,e⟩,_⟩ | ⟨e,_⟩
   ·exact .inl (by rw [e]; rfl)
   ·exact .inr (Nat.le_trans hx.le e)
  have hne : gP ≠ gk := fun e => by
   rcases hfr with e1 | e1
   ·have hn := hW.nod
    simp only [Pg.muts,List.nodup_cons] at hn;exact hn.1 (by simp [e1,e])
   ·have := hvar.lt
    omega
  obtain ⟨G,hGd⟩ : ∃ G : Fs,G = fun z => z < w.heap.size ∧ z ≠ gk ∧ z ≠ gP := ⟨_,rfl⟩;have nGk : ¬ G gk := by rw [hGd]; exact fun h => h.2.1 rfl
  have nGP : ¬ G gP := by rw [hGd]; exact fun h => h.2.2 rfl
  have hB : Bw G w w3 := by
   have h1 : Bw G w w2 := Bw.of hx (by rw [hGd]; exact fun z hz => hz.1)
   rcases hwhere with ⟨_,hu⟩ | ⟨_,hu⟩
   ·exact h1.trans (Bw.upd hu nGk)
   ·exact h1.trans (Bw.of hu (by rw [hGd]; exact fun z hz => Nat.lt_of_lt_of_le hz.1 hx.le))
  have hvP := hvar.ext hx;replace hvP : Var w3 gP [tv,.int .i64 pos,.slice pc frs.length cc] 82 := by
   rcases hwhere with ⟨_,hu⟩ | ⟨_,hu⟩
   ·exact hvP.upd hu hne
   ·exact hvP.ext hu
  have hoE : 0 + (frs.length : Int).toNat * 3 = frs.length * 3 := by omega
  have hKl : (aK Fr.cells frs ++ [Value.int .i64 0,Value.string ⟨#[]⟩,Value.slice none 0 0] ++ spk).length = frs.length * 3 + 3 + spk.length := by rw [List.length_append,List.length_append,aQ Fr.len]; rfl
  refine Qb.tameW (by kernel_rfl) 9 rfl (by kernel_rfl) trivial (bY fun wz => bI Tryz.underlying52 dA rfl rfl (by omega)) rfl ?_;refine Qb.tameW (by kernel_rfl) 11 rfl (by kernel_rfl) trivial (bY fun wz => aF rfl) rfl ?_;refine Qb.tameW (by kernel_rfl) 12 rfl (by kernel_rfl) trivial (bY fun wz => aA eI rfl) rfl ?_;refine Qb.alt2 (i := 10) (j := 13) (by kernel_rfl) ?_ ?_
  ·skip
   refine ⟨_,_,rfl,rfl,trivial,dZ (cs := [.int .i64 k',.string fS,.slice none 0 0]) hvk rfl rfl rfl dA (by rw [hoE,hKl]; simp) (Fr.one (f := ⟨k',.slice none 0 0,[]⟩) rfl),rfl,fun _ _ h => trivial,?_⟩;rintro _ wE ⟨huE,hvE⟩;rw [hoE] at hvE;replace hvE : Var wE gk (aK Fr.cells (frs ++ [⟨k',.slice none 0 0,[]⟩]) ++ spk) 54 := (lH (frs := frs) (f := ⟨k',.slice none 0 0,[]⟩) (z := [Value.int .i64 0,Value.string ⟨#[]⟩,Value.slice none 0 0]) (sp := spk) rfl) ▸ hvE;clear hvk;have hvk := hvE;clear hvE;replace hvP := hvP.upd huE hne;replace hB := hB.trans (Bw.upd huE nGk);refine Qb.alt1 (i := 13) (by kernel_rfl) ?_;refine ⟨_,_,rfl,rfl,trivial,cG hvP eH rfl rfl rfl rfl rfl,rfl,fun _ _ h => trivial,?_⟩;rintro _ wS ⟨huS,hvS⟩;simp only [List.set] at hvS;clear hvP;have hvP := hvS;clear hvS;replace hvk := hvk.upd huS (Ne.symm hne);replace hB := hB.trans (Bw.upd huS nGP);refine Qb.done (by kernel_rfl) ?_;exact ⟨(),by repeat (first | exact .nil | refine .cons rfl ?_),_,hW.push (f := ⟨k',.slice none 0 0,[]⟩) (sv' := .slice (some ⟨gk,0,none⟩) (frs.length + 1) capk) hB (fun z h1 h2 h3 => by rw [hGd]; exact ⟨h1,fun e => h3 (by rw [e]; rfl),h2⟩) hvP (bK (Nat.zero_le _) (aQ Fr.len _ |>.trans (by simp)) hck hmk hlk hvk) (fun b hb => by injection hb with hb; subst hb; exact hfr) ⟨rfl,.inl ⟨rfl,rfl⟩⟩ (fun b hb => by cases hb) (fun t ht => by cases ht)⟩
  ·skip
   refine ⟨_,_,rfl,rfl,trivial,cG hvP eH rfl rfl rfl rfl rfl,rfl,fun _ _ h => trivial,?_⟩;rintro _ wS ⟨huS,hvS⟩;simp only [List.set] at hvS;clear hvP;have hvP := hvS;clear hvS;replace hvk := hvk.upd huS (Ne.symm hne);replace hB := hB.trans (Bw.upd huS nGP);refine Qb.alt1 (i := 10) (by kernel_rfl) ?_;refine ⟨_,_,rfl,rfl,trivial,dZ (cs := [.int .i64 k',.string fS,.slice none 0 0]) hvk rfl rfl rfl dA (by rw [hoE,hKl]; simp) (Fr.one (f := ⟨k',.slice none 0 0,[]⟩) rfl),rfl,fun _ _ h => trivial,?_⟩;rintro _ wE ⟨huE,hvE⟩;rw [hoE] at hvE;replace hvE : Var wE gk (aK Fr.cells (frs ++ [⟨k',.slice none 0 0,[]⟩]) ++ spk) 54 := (lH (frs := frs) (f := ⟨k',.slice none 0 0,[]⟩) (z := [Value.int .i64 0,Value.string ⟨#[]⟩,Value.slice none 0 0]) (sp := spk) rfl) ▸ hvE;clear hvk;have hvk := hvE;clear hvE;replace hvP := hvP.upd huE hne;replace hB := hB.trans (Bw.upd huE nGk);refine Qb.done (by kernel_rfl) ?_;exact ⟨(),by repeat (first | exact .nil | refine .cons rfl ?_),_,hW.push (f := ⟨k',.slice none 0 0,[]⟩) (sv' := .slice (some ⟨gk,0,none⟩) (frs.length + 1) capk) hB (fun z h1 h2 h3 => by rw [hGd]; exact ⟨h1,fun e => h3 (by rw [e]; rfl),h2⟩) hvP (bK (Nat.zero_le _) (aQ Fr.len _ |>.trans (by simp)) hck hmk hlk hvk) (fun b hb => by injection hb with hb; subst hb; exact hfr) ⟨rfl,.inl ⟨rfl,rfl⟩⟩ (fun b hb => by cases hb) (fun t ht => by cases ht)⟩
 ·rintro L' wF ⟨_,hs,sv',q1,q2⟩
  refine Wp.sub hs (.sr (.m2 rfl ?_));refine Rg.wd trivial (mY rfl hcf rfl (hP _ q2 ⟨_,q1,rfl,hd,hpos,by simp [hm,kS],fun f hf => by (rcases List.mem_append.1 hf with hf | hf); (have := hks f hf; simp only; omega); (obtain rfl : f = ⟨k',.slice none 0 0,[]⟩ := by simpa using hf); simp,by simp; omega⟩)) rfl ?_;rintro _ w20 ⟨q3,q4⟩;refine .done (Wp.region (.m2 rfl ?_));refine Rg.wd trivial (aC Tryz.call123 rfl (jT q3 (by omega) hb)) rfl ?_;rintro _ w21 ⟨q5,q6⟩;refine .done ?_;exact ⟨[],trivial,q5,q2.trans (q4.trans q6)⟩
end Go.Proofs.YtlndmiegodcfjaaGreatDoor.Par
