/- The walks of package lexer. Printed by doorl.py. -/
import Derived.Test.YtcelfjbajdffkaaGreatDoorXc
import Derived.Test.YtcelfjbajdffkaaGreatDoorXa
import Derived.Test.YtcelfjbajdffkaaGreatDoorXb
set_option linter.unusedVariables false
set_option linter.unusedSimpArgs false
namespace Go.Proofs.YtcelfjbajdffkaaGreatDoor.Lexi
set_option maxRecDepth 20000
open Go.Gx Go.RowKit Go.Lib
theorem isLetter_ok {w : World} {c : Int} : Cl Tryz.prog 91 #[.int .u8 c] w (fun u w' => u = .bool (isLt c) ∧ w = w') := by
 have hc : (97 ≤ c ∧ c ≤ 122) ∨ 122 < c ∨ (65 ≤ c ∧ c ≤ 90) ∨ (90 < c ∧ c < 97 ∧ c = 95) ∨ (90 < c ∧ c < 97 ∧ c ≠ 95) ∨ c < 65 := by omega
 rcases hc with h | h | h | h | h | h
 ·rw [show isLt c = true from by simp [isLt]; omega]
  refine Cl.enter Tryz.func91 rfl Tryz.ntmps91 rfl rfl (.sr (.as rfl rfl (.done (.sr (.mv rfl rfl ?_)))))
  first | refine .tq (t_geqT rfl rfl (by omega)) rfl ?_ | refine .tq (t_geqF rfl rfl (by omega)) rfl ?_ | refine .tq (t_geq rfl rfl) rfl ?_
  refine .mv rfl rfl ?_
  first | refine .gd (t_move rfl) rfl ?_ | refine .so rfl rfl ?_
  first | refine .gd (t_leqT rfl rfl (by omega)) rfl ?_ | refine .gd (t_leqF rfl rfl (by omega)) rfl ?_ | refine .gd (t_leq rfl rfl) rfl ?_ | refine .so rfl rfl ?_
  first | refine .tq (t_pickT rfl rfl) rfl ?_ | refine .tq (t_pickF rfl rfl) rfl ?_
  refine .mv rfl rfl ?_
  first | refine .gd (t_move rfl) rfl ?_ | refine .so rfl rfl ?_
  first | refine .gd (t_geqT rfl rfl (by omega)) rfl ?_ | refine .gd (t_geqF rfl rfl (by omega)) rfl ?_ | refine .gd (t_geq rfl rfl) rfl ?_ | refine .so rfl rfl ?_
  first | refine .gd (t_move rfl) rfl ?_ | refine .so rfl rfl ?_
  first | refine .gd (t_move rfl) rfl ?_ | refine .so rfl rfl ?_
  first | refine .gd (t_leqT rfl rfl (by omega)) rfl ?_ | refine .gd (t_leqF rfl rfl (by omega)) rfl ?_ | refine .gd (t_leq rfl rfl) rfl ?_ | refine .so rfl rfl ?_
  first | refine .gd (t_pickT rfl rfl) rfl ?_ | refine .gd (t_pickF rfl rfl) rfl ?_ | refine .so rfl rfl ?_
  first | refine .tq (t_pickT rfl rfl) rfl ?_ | refine .tq (t_pickF rfl rfl) rfl ?_
  refine .mv rfl rfl ?_
  first | refine .gd (t_move rfl) rfl ?_ | refine .so rfl rfl ?_
  first | refine .gd (t_eqlT rfl rfl (by omega)) rfl ?_ | refine .gd (t_eqlF rfl rfl (by omega)) rfl ?_ | refine .gd (t_eql rfl rfl) rfl ?_ | refine .so rfl rfl ?_
  first | refine .tq (t_pickT rfl rfl) rfl ?_ | refine .tq (t_pickF rfl rfl) rfl ?_
  refine .as rfl rfl (.done (Wp.ret ?_))
  exact ⟨[_],⟨rfl,trivial⟩,rfl,rfl⟩
 ·rw [show isLt c = false from by simp [isLt]; omega]
  refine Cl.enter Tryz.func91 rfl Tryz.ntmps91 rfl rfl (.sr (.as rfl rfl (.done (.sr (.mv rfl rfl ?_)))))
  first | refine .tq (t_geqT rfl rfl (by omega)) rfl ?_ | refine .tq (t_geqF rfl rfl (by omega)) rfl ?_ | refine .tq (t_geq rfl rfl) rfl ?_
  refine .mv rfl rfl ?_
  first | refine .gd (t_move rfl) rfl ?_ | refine .so rfl rfl ?_
  first | refine .gd (t_leqT rfl rfl (by omega)) rfl ?_ | refine .gd (t_leqF rfl rfl (by omega)) rfl ?_ | refine .gd (t_leq rfl rfl) rfl ?_ | refine .so rfl rfl ?_
  first | refine .tq (t_pickT rfl rfl) rfl ?_ | refine .tq (t_pickF rfl rfl) rfl ?_
  refine .mv rfl rfl ?_
  first | refine .gd (t_move rfl) rfl ?_ | refine .so rfl rfl ?_
  first | refine .gd (t_geqT rfl rfl (by omega)) rfl ?_ | refine .gd (t_geqF rfl rfl (by omega)) rfl ?_ | refine .gd (t_geq rfl rfl) rfl ?_ | refine .so rfl rfl ?_
  first | refine .gd (t_move rfl) rfl ?_ | refine .so rfl rfl ?_
  first | refine .gd (t_move rfl) rfl ?_ | refine .so rfl rfl ?_
  first | refine .gd (t_leqT rfl rfl (by omega)) rfl ?_ | refine .gd (t_leqF rfl rfl (by omega)) rfl ?_ | refine .gd (t_leq rfl rfl) rfl ?_ | refine .so rfl rfl ?_
  first | refine .gd (t_pickT rfl rfl) rfl ?_ | refine .gd (t_pickF rfl rfl) rfl ?_ | refine .so rfl rfl ?_
  first | refine .tq (t_pickT rfl rfl) rfl ?_ | refine .tq (t_pickF rfl rfl) rfl ?_
  refine .mv rfl rfl ?_
  first | refine .gd (t_move rfl) rfl ?_ | refine .so rfl rfl ?_
  first | refine .gd (t_eqlT rfl rfl (by omega)) rfl ?_ | refine .gd (t_eqlF rfl rfl (by omega)) rfl ?_ | refine .gd (t_eql rfl rfl) rfl ?_ | refine .so rfl rfl ?_
  first | refine .tq (t_pickT rfl rfl) rfl ?_ | refine .tq (t_pickF rfl rfl) rfl ?_
  refine .as rfl rfl (.done (Wp.ret ?_))
  exact ⟨[_],⟨rfl,trivial⟩,rfl,rfl⟩
 ·rw [show isLt c = true from by simp [isLt]; omega]
  refine Cl.enter Tryz.func91 rfl Tryz.ntmps91 rfl rfl (.sr (.as rfl rfl (.done (.sr (.mv rfl rfl ?_)))))
  first | refine .tq (t_geqT rfl rfl (by omega)) rfl ?_ | refine .tq (t_geqF rfl rfl (by omega)) rfl ?_ | refine .tq (t_geq rfl rfl) rfl ?_
  refine .mv rfl rfl ?_
  first | refine .gd (t_move rfl) rfl ?_ | refine .so rfl rfl ?_
  first | refine .gd (t_leqT rfl rfl (by omega)) rfl ?_ | refine .gd (t_leqF rfl rfl (by omega)) rfl ?_ | refine .gd (t_leq rfl rfl) rfl ?_ | refine .so rfl rfl ?_
  first | refine .tq (t_pickT rfl rfl) rfl ?_ | refine .tq (t_pickF rfl rfl) rfl ?_
  refine .mv rfl rfl ?_
  first | refine .gd (t_move rfl) rfl ?_ | refine .so rfl rfl ?_
  first | refine .gd (t_geqT rfl rfl (by omega)) rfl ?_ | refine .gd (t_geqF rfl rfl (by omega)) rfl ?_ | refine .gd (t_geq rfl rfl) rfl ?_ | refine .so rfl rfl ?_
  first | refine .gd (t_move rfl) rfl ?_ | refine .so rfl rfl ?_
  first | refine .gd (t_move rfl) rfl ?_ | refine .so rfl rfl ?_
  first | refine .gd (t_leqT rfl rfl (by omega)) rfl ?_ | refine .gd (t_leqF rfl rfl (by omega)) rfl ?_ | refine .gd (t_leq rfl rfl) rfl ?_ | refine .so rfl rfl ?_
  first | refine .gd (t_pickT rfl rfl) rfl ?_ | refine .gd (t_pickF rfl rfl) rfl ?_ | refine .so rfl rfl ?_
  first | refine .tq (t_pickT rfl rfl) rfl ?_ | refine .tq (t_pickF rfl rfl) rfl ?_
  refine .mv rfl rfl ?_
  first | refine .gd (t_move rfl) rfl ?_ | refine .so rfl rfl ?_
  first | refine .gd (t_eqlT rfl rfl (by omega)) rfl ?_ | refine .gd (t_eqlF rfl rfl (by omega)) rfl ?_ | refine .gd (t_eql rfl rfl) rfl ?_ | refine .so rfl rfl ?_
  first | refine .tq (t_pickT rfl rfl) rfl ?_ | refine .tq (t_pickF rfl rfl) rfl ?_
  refine .as rfl rfl (.done (Wp.ret ?_))
  exact ⟨[_],⟨rfl,trivial⟩,rfl,rfl⟩
 ·rw [show isLt c = true from by simp [isLt]; omega]
  refine Cl.enter Tryz.func91 rfl Tryz.ntmps91 rfl rfl (.sr (.as rfl rfl (.done (.sr (.mv rfl rfl ?_)))))
  first | refine .tq (t_geqT rfl rfl (by omega)) rfl ?_ | refine .tq (t_geqF rfl rfl (by omega)) rfl ?_ | refine .tq (t_geq rfl rfl) rfl ?_
  refine .mv rfl rfl ?_
  first | refine .gd (t_move rfl) rfl ?_ | refine .so rfl rfl ?_
  first | refine .gd (t_leqT rfl rfl (by omega)) rfl ?_ | refine .gd (t_leqF rfl rfl (by omega)) rfl ?_ | refine .gd (t_leq rfl rfl) rfl ?_ | refine .so rfl rfl ?_
  first | refine .tq (t_pickT rfl rfl) rfl ?_ | refine .tq (t_pickF rfl rfl) rfl ?_
  refine .mv rfl rfl ?_
  first | refine .gd (t_move rfl) rfl ?_ | refine .so rfl rfl ?_
  first | refine .gd (t_geqT rfl rfl (by omega)) rfl ?_ | refine .gd (t_geqF rfl rfl (by omega)) rfl ?_ | refine .gd (t_geq rfl rfl) rfl ?_ | refine .so rfl rfl ?_
  first | refine .gd (t_move rfl) rfl ?_ | refine .so rfl rfl ?_
  first | refine .gd (t_move rfl) rfl ?_ | refine .so rfl rfl ?_
  first | refine .gd (t_leqT rfl rfl (by omega)) rfl ?_ | refine .gd (t_leqF rfl rfl (by omega)) rfl ?_ | refine .gd (t_leq rfl rfl) rfl ?_ | refine .so rfl rfl ?_
  first | refine .gd (t_pickT rfl rfl) rfl ?_ | refine .gd (t_pickF rfl rfl) rfl ?_ | refine .so rfl rfl ?_
  first | refine .tq (t_pickT rfl rfl) rfl ?_ | refine .tq (t_pickF rfl rfl) rfl ?_
  refine .mv rfl rfl ?_
  first | refine .gd (t_move rfl) rfl ?_ | refine .so rfl rfl ?_
  first | refine .gd (t_eqlT rfl rfl (by omega)) rfl ?_ | refine .gd (t_eqlF rfl rfl (by omega)) rfl ?_ | refine .gd (t_eql rfl rfl) rfl ?_ | refine .so rfl rfl ?_
  first | refine .tq (t_pickT rfl rfl) rfl ?_ | refine .tq (t_pickF rfl rfl) rfl ?_
  refine .as rfl rfl (.done (Wp.ret ?_))
  exact ⟨[_],⟨rfl,trivial⟩,rfl,rfl⟩
 ·rw [show isLt c = false from by simp [isLt]; omega]
  refine Cl.enter Tryz.func91 rfl Tryz.ntmps91 rfl rfl (.sr (.as rfl rfl (.done (.sr (.mv rfl rfl ?_)))))
  first | refine .tq (t_geqT rfl rfl (by omega)) rfl ?_ | refine .tq (t_geqF rfl rfl (by omega)) rfl ?_ | refine .tq (t_geq rfl rfl) rfl ?_
  refine .mv rfl rfl ?_
  first | refine .gd (t_move rfl) rfl ?_ | refine .so rfl rfl ?_
  first | refine .gd (t_leqT rfl rfl (by omega)) rfl ?_ | refine .gd (t_leqF rfl rfl (by omega)) rfl ?_ | refine .gd (t_leq rfl rfl) rfl ?_ | refine .so rfl rfl ?_
  first | refine .tq (t_pickT rfl rfl) rfl ?_ | refine .tq (t_pickF rfl rfl) rfl ?_
  refine .mv rfl rfl ?_
  first | refine .gd (t_move rfl) rfl ?_ | refine .so rfl rfl ?_
  first | refine .gd (t_geqT rfl rfl (by omega)) rfl ?_ | refine .gd (t_geqF rfl rfl (by omega)) rfl ?_ | refine .gd (t_geq rfl rfl) rfl ?_ | refine .so rfl rfl ?_
  first | refine .gd (t_move rfl) rfl ?_ | refine .so rfl rfl ?_
  first | refine .gd (t_move rfl) rfl ?_ | refine .so rfl rfl ?_
  first | refine .gd (t_leqT rfl rfl (by omega)) rfl ?_ | refine .gd (t_leqF rfl rfl (by omega)) rfl ?_ | refine .gd (t_leq rfl rfl) rfl ?_ | refine .so rfl rfl ?_
  first | refine .gd (t_pickT rfl rfl) rfl ?_ | refine .gd (t_pickF rfl rfl) rfl ?_ | refine .so rfl rfl ?_
  first | refine .tq (t_pickT rfl rfl) rfl ?_ | refine .tq (t_pickF rfl rfl) rfl ?_
  refine .mv rfl rfl ?_
  first | refine .gd (t_move rfl) rfl ?_ | refine .so rfl rfl ?_
  first | refine .gd (t_eqlT rfl rfl (by omega)) rfl ?_ | refine .gd (t_eqlF rfl rfl (by omega)) rfl ?_ | refine .gd (t_eql rfl rfl) rfl ?_ | refine .so rfl rfl ?_
  first | refine .tq (t_pickT rfl rfl) rfl ?_ | refine .tq (t_pickF rfl rfl) rfl ?_
  refine .as rfl rfl (.done (Wp.ret ?_))
  exact ⟨[_],⟨rfl,trivial⟩,rfl,rfl⟩
 ·rw [show isLt c = false from by simp [isLt]; omega]
  refine Cl.enter Tryz.func91 rfl Tryz.ntmps91 rfl rfl (.sr (.as rfl rfl (.done (.sr (.mv rfl rfl ?_)))))
  first | refine .tq (t_geqT rfl rfl (by omega)) rfl ?_ | refine .tq (t_geqF rfl rfl (by omega)) rfl ?_ | refine .tq (t_geq rfl rfl) rfl ?_
  refine .mv rfl rfl ?_
  first | refine .gd (t_move rfl) rfl ?_ | refine .so rfl rfl ?_
  first | refine .gd (t_leqT rfl rfl (by omega)) rfl ?_ | refine .gd (t_leqF rfl rfl (by omega)) rfl ?_ | refine .gd (t_leq rfl rfl) rfl ?_ | refine .so rfl rfl ?_
  first | refine .tq (t_pickT rfl rfl) rfl ?_ | refine .tq (t_pickF rfl rfl) rfl ?_
  refine .mv rfl rfl ?_
  first | refine .gd (t_move rfl) rfl ?_ | refine .so rfl rfl ?_
  first | refine .gd (t_geqT rfl rfl (by omega)) rfl ?_ | refine .gd (t_geqF rfl rfl (by omega)) rfl ?_ | refine .gd (t_geq rfl rfl) rfl ?_ | refine .so rfl rfl ?_
  first | refine .gd (t_move rfl) rfl ?_ | refine .so rfl rfl ?_
  first | refine .gd (t_move rfl) rfl ?_ | refine .so rfl rfl ?_
  first | refine .gd (t_leqT rfl rfl (by omega)) rfl ?_ | refine .gd (t_leqF rfl rfl (by omega)) rfl ?_ | refine .gd (t_leq rfl rfl) rfl ?_ | refine .so rfl rfl ?_
  first | refine .gd (t_pickT rfl rfl) rfl ?_ | refine .gd (t_pickF rfl rfl) rfl ?_ | refine .so rfl rfl ?_
  first | refine .tq (t_pickT rfl rfl) rfl ?_ | refine .tq (t_pickF rfl rfl) rfl ?_
  refine .mv rfl rfl ?_
  first | refine .gd (t_move rfl) rfl ?_ | refine .so rfl rfl ?_
  first | refine .gd (t_eqlT rfl rfl (by omega)) rfl ?_ | refine .gd (t_eqlF rfl rfl (by omega)) rfl ?_ | refine .gd (t_eql rfl rfl) rfl ?_ | refine .so rfl rfl ?_
  first | refine .tq (t_pickT rfl rfl) rfl ?_ | refine .tq (t_pickF rfl rfl) rfl ?_
  refine .as rfl rfl (.done (Wp.ret ?_))
  exact ⟨[_],⟨rfl,trivial⟩,rfl,rfl⟩
theorem isDigit_ok {w : World} {c : Int} : Cl Tryz.prog 93 #[.int .u8 c] w (fun u w' => u = .bool (isDg c) ∧ w = w') := by
 have hc : (48 ≤ c ∧ c ≤ 57) ∨ 57 < c ∨ c < 48 := by omega
 rcases hc with h | h | h
 ·rw [show isDg c = true from by simp [isDg]; omega]
  refine Cl.enter Tryz.func93 rfl Tryz.ntmps93 rfl rfl (.sr (.as rfl rfl (.done (.sr (.mv rfl rfl ?_)))))
  first | refine .tq (t_geqT rfl rfl (by omega)) rfl ?_ | refine .tq (t_geqF rfl rfl (by omega)) rfl ?_ | refine .tq (t_geq rfl rfl) rfl ?_
  refine .mv rfl rfl ?_
  first | refine .gd (t_move rfl) rfl ?_ | refine .so rfl rfl ?_
  first | refine .gd (t_leqT rfl rfl (by omega)) rfl ?_ | refine .gd (t_leqF rfl rfl (by omega)) rfl ?_ | refine .gd (t_leq rfl rfl) rfl ?_ | refine .so rfl rfl ?_
  first | refine .tq (t_pickT rfl rfl) rfl ?_ | refine .tq (t_pickF rfl rfl) rfl ?_
  refine .as rfl rfl (.done (Wp.ret ?_))
  exact ⟨[_],⟨rfl,trivial⟩,rfl,rfl⟩
 ·rw [show isDg c = false from by simp [isDg]; omega]
  refine Cl.enter Tryz.func93 rfl Tryz.ntmps93 rfl rfl (.sr (.as rfl rfl (.done (.sr (.mv rfl rfl ?_)))))
  first | refine .tq (t_geqT rfl rfl (by omega)) rfl ?_ | refine .tq (t_geqF rfl rfl (by omega)) rfl ?_ | refine .tq (t_geq rfl rfl) rfl ?_
  refine .mv rfl rfl ?_
  first | refine .gd (t_move rfl) rfl ?_ | refine .so rfl rfl ?_
  first | refine .gd (t_leqT rfl rfl (by omega)) rfl ?_ | refine .gd (t_leqF rfl rfl (by omega)) rfl ?_ | refine .gd (t_leq rfl rfl) rfl ?_ | refine .so rfl rfl ?_
  first | refine .tq (t_pickT rfl rfl) rfl ?_ | refine .tq (t_pickF rfl rfl) rfl ?_
  refine .as rfl rfl (.done (Wp.ret ?_))
  exact ⟨[_],⟨rfl,trivial⟩,rfl,rfl⟩
 ·rw [show isDg c = false from by simp [isDg]; omega]
  refine Cl.enter Tryz.func93 rfl Tryz.ntmps93 rfl rfl (.sr (.as rfl rfl (.done (.sr (.mv rfl rfl ?_)))))
  first | refine .tq (t_geqT rfl rfl (by omega)) rfl ?_ | refine .tq (t_geqF rfl rfl (by omega)) rfl ?_ | refine .tq (t_geq rfl rfl) rfl ?_
  refine .mv rfl rfl ?_
  first | refine .gd (t_move rfl) rfl ?_ | refine .so rfl rfl ?_
  first | refine .gd (t_leqT rfl rfl (by omega)) rfl ?_ | refine .gd (t_leqF rfl rfl (by omega)) rfl ?_ | refine .gd (t_leq rfl rfl) rfl ?_ | refine .so rfl rfl ?_
  first | refine .tq (t_pickT rfl rfl) rfl ?_ | refine .tq (t_pickF rfl rfl) rfl ?_
  refine .as rfl rfl (.done (Wp.ret ?_))
  exact ⟨[_],⟨rfl,trivial⟩,rfl,rfl⟩
theorem noNl1_ok {w : World} {c : Int} : Cl Tryz.prog 90 #[.int .u8 c] w (fun u w' => u = .bool (noNl c) ∧ w = w') := by
 by_cases h : c = 10
 ·rw [show noNl c = false from by simp [noNl,h]]
  refine Cl.enter Tryz.func90 rfl Tryz.ntmps90 rfl rfl (.sr (.as rfl rfl (.done (.sr (.mv rfl rfl ?_)))))
  first | refine .tq (t_neqT rfl rfl (by omega)) rfl ?_ | refine .tq (t_neqF rfl rfl (by omega)) rfl ?_ | refine .tq (t_neq rfl rfl) rfl ?_
  refine .as rfl rfl (.done (Wp.ret ?_))
  exact ⟨[_],⟨rfl,trivial⟩,rfl,rfl⟩
 ·rw [show noNl c = true from by simp [noNl,h]]
  refine Cl.enter Tryz.func90 rfl Tryz.ntmps90 rfl rfl (.sr (.as rfl rfl (.done (.sr (.mv rfl rfl ?_)))))
  first | refine .tq (t_neqT rfl rfl (by omega)) rfl ?_ | refine .tq (t_neqF rfl rfl (by omega)) rfl ?_ | refine .tq (t_neq rfl rfl) rfl ?_
  refine .as rfl rfl (.done (Wp.ret ?_))
  exact ⟨[_],⟨rfl,trivial⟩,rfl,rfl⟩
theorem noNl2_ok {w : World} {c : Int} : Cl Tryz.prog 121 #[.int .u8 c] w (fun u w' => u = .bool (noNl c) ∧ w = w') := by
 by_cases h : c = 10
 ·rw [show noNl c = false from by simp [noNl,h]]
  refine Cl.enter Tryz.func121 rfl Tryz.ntmps121 rfl rfl (.sr (.as rfl rfl (.done (.sr (.mv rfl rfl ?_)))))
  first | refine .tq (t_neqT rfl rfl (by omega)) rfl ?_ | refine .tq (t_neqF rfl rfl (by omega)) rfl ?_ | refine .tq (t_neq rfl rfl) rfl ?_
  refine .as rfl rfl (.done (Wp.ret ?_))
  exact ⟨[_],⟨rfl,trivial⟩,rfl,rfl⟩
 ·rw [show noNl c = true from by simp [noNl,h]]
  refine Cl.enter Tryz.func121 rfl Tryz.ntmps121 rfl rfl (.sr (.as rfl rfl (.done (.sr (.mv rfl rfl ?_)))))
  first | refine .tq (t_neqT rfl rfl (by omega)) rfl ?_ | refine .tq (t_neqF rfl rfl (by omega)) rfl ?_ | refine .tq (t_neq rfl rfl) rfl ?_
  refine .as rfl rfl (.done (Wp.ret ?_))
  exact ⟨[_],⟨rfl,trivial⟩,rfl,rfl⟩
theorem isId_ok {w : World} {c : Int} : Cl Tryz.prog 92 #[.int .u8 c] w (fun u w' => u = .bool (isId c) ∧ w = w') := by
 have e0 : isId c = (isLt c || isDg c) := rfl
 rw [e0]
 cases h : isLt c
 ·skip
  refine Cl.enter Tryz.func92 rfl Tryz.ntmps92 rfl rfl (.sr (.as rfl rfl (.done (.sr (.mv rfl rfl (Rg.wd trivial (w_call Tryz.call91 rfl isLetter_ok) rfl ?_))))))
  rintro _ _ ⟨rfl,rfl⟩
  rw [h]
  refine .mv rfl rfl ?_
  first | refine .gd (t_move rfl) rfl ?_ | refine .so rfl rfl ?_
  refine Rg.wd ⟨_,rfl,rfl⟩ (w_call Tryz.call93 rfl isDigit_ok) rfl ?_
  rintro _ _ ⟨rfl,rfl⟩
  first | refine .tq (t_pickT rfl rfl) rfl ?_ | refine .tq (t_pickF rfl rfl) rfl ?_
  refine .as rfl rfl (.done (Wp.ret ?_))
  exact ⟨[_],⟨rfl,trivial⟩,by rfl,rfl⟩
 ·skip
  refine Cl.enter Tryz.func92 rfl Tryz.ntmps92 rfl rfl (.sr (.as rfl rfl (.done (.sr (.mv rfl rfl (Rg.wd trivial (w_call Tryz.call91 rfl isLetter_ok) rfl ?_))))))
  rintro _ _ ⟨rfl,rfl⟩
  rw [h]
  refine .mv rfl rfl ?_
  first | refine .gd (t_move rfl) rfl ?_ | refine .so rfl rfl ?_
  refine .so rfl rfl ?_
  first | refine .tq (t_pickT rfl rfl) rfl ?_ | refine .tq (t_pickF rfl rfl) rfl ?_
  refine .as rfl rfl (.done (Wp.ret ?_))
  exact ⟨[_],⟨rfl,trivial⟩,by rfl,rfl⟩
theorem idx_ok {w : World} {s : ByteArray} {c : Int} : Cl Tryz.prog 98 #[.string s,.int .u8 c] w (fun u w' => u = .int .i64 (Lib.indexByte s.data.toList c.toNat.toUInt8) ∧ w = w') :=
 (Cl.of (Tryz.strings_IndexByte s c w)).mono fun _ _ ⟨h1,h2⟩ => ⟨h1,h2.symm⟩
theorem bt_raw' (s : ByteArray) (i : Nat) : ((s.data.toList.getD i 0).toNat : Int) = bt s i := rfl
def spText : ByteArray := ⟨#[32,9,10,13]⟩
theorem sp_tab : ∀ n : Fin 256,decide (0 ≤ Lib.indexByte spText.data.toList (n.val : Int).toNat.toUInt8) = isSp (n.val : Int) := by decide +kernel
theorem isSpace_ok {w : World} {n : Nat} (hn : n < 256) : Cl Tryz.prog 87 #[.int .u8 n] w (fun u w' => u = .bool (isSp n) ∧ w = w') := by
 have e0 := sp_tab ⟨n,hn⟩
 simp only at e0
 refine Cl.enter Tryz.func87 rfl Tryz.ntmps87 rfl rfl (.sr (.as rfl rfl (.done (.sr (.mv rfl rfl (Rg.wd trivial (w_call Tryz.call98 rfl (idx_ok (s := spText))) rfl ?_))))))
 rintro _ _ ⟨rfl,rfl⟩
 refine .tq (t_geq rfl rfl) rfl (.as rfl rfl (.done (Wp.ret ?_)))
 exact ⟨[_],⟨rfl,trivial⟩,congrArg Value.bool e0,rfl⟩
theorem scan_ok {p : Int → Bool} {fw : FuncId} (hcf : ∀ (args : Array Value) (w : World),(callFunc fw args).run Tryz.prog w = .ok (.enter fw args) w) (hw : ∀ (w : World) (n : Nat),n < 256 → Cl Tryz.prog fw #[.int .u8 n] w (fun u w' => u = .bool (p n) ∧ w = w'))
  {w : World} {s : ByteArray} {i0 : Nat} (hs : s.size ≤ 2000) (hi0 : i0 ≤ s.size) : Cl Tryz.prog 88 #[.string s,.int .i64 i0,.func (.func fw) #[] #[]] w (fun u w' => u = .int .i64 (scan p s i0) ∧ w = w') := by
 refine Cl.enter Tryz.func88 rfl Tryz.ntmps88 rfl rfl (.sr (.as rfl rfl (.done (.seq (Wp.block ?_)))))
 refine Wp.loop (ι := Nat) (fun i => [(0,.string s),(1,.int .i64 i),(2,.func (.func fw) #[] #[])])
  (fun i w' => i ≤ s.size ∧ scan p s i = scan p s i0 ∧ w = w') (fun i => s.size - i) i0 (by repeat (first | exact .nil | refine .cons rfl ?_)) ⟨hi0,rfl,rfl⟩ ?_
 rintro i w3 ⟨hi,he,rfl⟩
 by_cases hlt : i < s.size
 ·cases hp : p (bt s i)
  ·skip
   refine .seq (.sr (.mv rfl rfl (.mv rfl rfl (.tq (t_len Tryz.underlying9 rfl) rfl ?_))))
   first | refine .tq (t_lssT rfl rfl (by omega)) rfl ?_ | refine .tq (t_lssF rfl rfl (by omega)) rfl ?_ | refine .tq (t_lss rfl rfl) rfl ?_
   refine .mv rfl rfl ?_
   first | refine .gd (t_move rfl) rfl ?_ | refine .so rfl rfl ?_
   first | refine .gd (t_move rfl) rfl ?_ | refine .so rfl rfl ?_
   first | refine .gd (t_move rfl) rfl ?_ | refine .so rfl rfl ?_
   first | refine .gd (t_index Tryz.underlying9 rfl rfl (by omega)) rfl ?_ | refine .so rfl rfl ?_
   rw [Int.toNat_natCast]
   refine Rg.wd ⟨_,rfl,rfl⟩ (w_callV rfl hcf rfl (hw _ (s.data.toList.getD i 0).toNat (UInt8.toNat_lt _))) rfl ?_
   rintro _ _ ⟨rfl,rfl⟩
   rw [show p (((s.data.toList.getD i 0).toNat : Nat) : Int) = _ from hp]
   first | refine .tq (t_pickT rfl rfl) rfl ?_ | refine .tq (t_pickF rfl rfl) rfl ?_
   refine .done (.condF rfl (Wp.exit (.sr (.mv rfl rfl (.as rfl rfl (.done (Wp.ret ?_)))))))
   exact ⟨[_],⟨rfl,trivial⟩,by rw [← he,scan_unique (Nat.le_refl _) hi (fun k a b => by omega) (fun _ => hp)]; rfl,rfl⟩
  ·skip
   refine .seq (.sr (.mv rfl rfl (.mv rfl rfl (.tq (t_len Tryz.underlying9 rfl) rfl ?_))))
   first | refine .tq (t_lssT rfl rfl (by omega)) rfl ?_ | refine .tq (t_lssF rfl rfl (by omega)) rfl ?_ | refine .tq (t_lss rfl rfl) rfl ?_
   refine .mv rfl rfl ?_
   first | refine .gd (t_move rfl) rfl ?_ | refine .so rfl rfl ?_
   first | refine .gd (t_move rfl) rfl ?_ | refine .so rfl rfl ?_
   first | refine .gd (t_move rfl) rfl ?_ | refine .so rfl rfl ?_
   first | refine .gd (t_index Tryz.underlying9 rfl rfl (by omega)) rfl ?_ | refine .so rfl rfl ?_
   rw [Int.toNat_natCast]
   refine Rg.wd ⟨_,rfl,rfl⟩ (w_callV rfl hcf rfl (hw _ (s.data.toList.getD i 0).toNat (UInt8.toNat_lt _))) rfl ?_
   rintro _ _ ⟨rfl,rfl⟩
   rw [show p (((s.data.toList.getD i 0).toNat : Nat) : Int) = _ from hp]
   first | refine .tq (t_pickT rfl rfl) rfl ?_ | refine .tq (t_pickF rfl rfl) rfl ?_
   refine .done (.condT rfl (Wp.skip (Wp.block (Wp.region (.mv rfl rfl ?_)))))
   first | refine .tq (t_addI rfl rfl (by omega)) rfl ?_ | refine .tq (t_add rfl rfl) rfl ?_
   refine .as rfl rfl (.done ?_)
   exact ⟨i + 1,by repeat (first | exact .nil | refine .cons rfl ?_),⟨hlt,by rw [← scan_next hlt hp]; exact he,rfl⟩,by omega⟩
 ·skip
  refine .seq (.sr (.mv rfl rfl (.mv rfl rfl (.tq (t_len Tryz.underlying9 rfl) rfl ?_))))
  first | refine .tq (t_lssT rfl rfl (by omega)) rfl ?_ | refine .tq (t_lssF rfl rfl (by omega)) rfl ?_ | refine .tq (t_lss rfl rfl) rfl ?_
  refine .mv rfl rfl ?_
  first | refine .gd (t_move rfl) rfl ?_ | refine .so rfl rfl ?_
  first | refine .gd (t_move rfl) rfl ?_ | refine .so rfl rfl ?_
  first | refine .gd (t_move rfl) rfl ?_ | refine .so rfl rfl ?_
  first | refine .gd (t_index Tryz.underlying9 rfl rfl (by omega)) rfl ?_ | refine .so rfl rfl ?_
  refine .so rfl rfl ?_
  first | refine .tq (t_pickT rfl rfl) rfl ?_ | refine .tq (t_pickF rfl rfl) rfl ?_
  refine .done (.condF rfl (Wp.exit (.sr (.mv rfl rfl (.as rfl rfl (.done (Wp.ret ?_)))))))
  exact ⟨[_],⟨rfl,trivial⟩,by rw [← he,scan_unique (Nat.le_refl _) hi (fun k a b => by omega) (fun h => absurd h hlt)]; rfl,rfl⟩
theorem str_step {s : ByteArray} {i : Nat} (h1 : bz s i ≠ 10) (h2 : bz s i ≠ 34) : str s i = if bz s i = 92 ∧ bz s (i + 1) ≠ 10 then str s (i + 2) else str s (i + 1) := by
 have := bz_lt h1
 unfold str
 rw [show strN s (s.size + 1) i = if bz s i = 10 then none else if bz s i = 34 then some (i + 1) else if bz s i = 92 ∧ bz s (i + 1) ≠ 10 then strN s s.size (i + 2) else strN s s.size (i + 1) from rfl,if_neg h1,if_neg h2,
  strN_fuel s.size (s.size + 1) (i + 2) (by omega) (by omega),strN_fuel s.size (s.size + 1) (i + 1) (by omega) (by omega)]
theorem str_nl {s : ByteArray} {i : Nat} (h1 : bz s i = 10) : str s i = none := by
 unfold str strN
 rw [if_pos h1]
theorem str_q {s : ByteArray} {i : Nat} (h2 : bz s i = 34) : str s i = some (i + 1) := by
 unfold str strN
 rw [if_neg (by omega),if_pos h2]
def strR (s : ByteArray) : Nat × Int := match str s 1 with | some j => (j,106) | none => (scan noNl s 1,108)
theorem scanString_ok {w : World} {s : ByteArray} (hs : s.size ≤ 2000) (h0 : 1 ≤ s.size) : Cl Tryz.prog 96 #[.string s] w (fun u w' => u = .tuple #[.int .i64 (strR s).1,.int .i64 (strR s).2] ∧ w = w') := by
 refine Cl.enter Tryz.func96 rfl Tryz.ntmps96 rfl rfl (.sr (.as rfl rfl (.as rfl rfl (.done (.seq (.sr (.as rfl rfl (.done (Wp.block ?_)))))))))
 refine Wp.loop (ι := Nat) (fun i => [(0,.string s),(4,.int .i64 i)])
  (fun i w' => 1 ≤ i ∧ i ≤ s.size + 1 ∧ str s i = str s 1 ∧ w = w') (fun i => s.size + 1 - i) 1 (by repeat (first | exact .nil | refine .cons rfl ?_)) ⟨Nat.le_refl _,by omega,rfl,rfl⟩ ?_
 rintro i w3 ⟨h1,hi,he,rfl⟩
 by_cases hlt : i < s.size
 ·have ez : bz s i = bt s i := bz_in hlt
  by_cases c1 : bt s i = 10
  ·have hR : strR s = (scan noNl s 1,108) := by unfold strR; rw [← he,str_nl (by omega)]
   refine .seq (.sr (.mv rfl rfl (.mv rfl rfl (.tq (t_len Tryz.underlying9 rfl) rfl ?_))))
   first | refine .tq (t_lssT rfl rfl (by omega)) rfl ?_ | refine .tq (t_lssF rfl rfl (by omega)) rfl ?_ | refine .tq (t_lss rfl rfl) rfl ?_
   refine .mv rfl rfl ?_
   first | refine .gd (t_move rfl) rfl ?_ | refine .so rfl rfl ?_
   first | refine .gd (t_move rfl) rfl ?_ | refine .so rfl rfl ?_
   first | refine .gd (t_index Tryz.underlying9 rfl rfl (by omega)) rfl ?_ | refine .so rfl rfl ?_
   try rw [Int.toNat_natCast,bt_raw']
   first | refine .gd (t_neqT rfl rfl (by omega)) rfl ?_ | refine .gd (t_neqF rfl rfl (by omega)) rfl ?_ | refine .gd (t_neq rfl rfl) rfl ?_ | refine .so rfl rfl ?_
   first | refine .tq (t_pickT rfl rfl) rfl ?_ | refine .tq (t_pickF rfl rfl) rfl ?_
   refine .done (.condF rfl (Wp.exit (.sr (.mv rfl rfl (Rg.wd trivial (w_call Tryz.call88 rfl (scan_ok Tryz.call121 (fun _ _ _ => noNl2_ok) hs h0)) rfl ?_)))))
   rintro _ _ ⟨rfl,rfl⟩
   refine .as rfl rfl (.as rfl rfl (.done (Wp.ret ?_)))
   exact ⟨[_,_],⟨rfl,rfl,trivial⟩,by rw [hR]; rfl,rfl⟩
  by_cases c2 : bt s i = 34
  ·have hR : strR s = (i + 1,106) := by unfold strR; rw [← he,str_q (by omega)]
   refine .seq (.sr (.mv rfl rfl (.mv rfl rfl (.tq (t_len Tryz.underlying9 rfl) rfl ?_))))
   first | refine .tq (t_lssT rfl rfl (by omega)) rfl ?_ | refine .tq (t_lssF rfl rfl (by omega)) rfl ?_ | refine .tq (t_lss rfl rfl) rfl ?_
   refine .mv rfl rfl ?_
   first | refine .gd (t_move rfl) rfl ?_ | refine .so rfl rfl ?_
   first | refine .gd (t_move rfl) rfl ?_ | refine .so rfl rfl ?_
   first | refine .gd (t_index Tryz.underlying9 rfl rfl (by omega)) rfl ?_ | refine .so rfl rfl ?_
   try rw [Int.toNat_natCast,bt_raw']
   first | refine .gd (t_neqT rfl rfl (by omega)) rfl ?_ | refine .gd (t_neqF rfl rfl (by omega)) rfl ?_ | refine .gd (t_neq rfl rfl) rfl ?_ | refine .so rfl rfl ?_
   first | refine .tq (t_pickT rfl rfl) rfl ?_ | refine .tq (t_pickF rfl rfl) rfl ?_
   refine .done (.condT rfl (Wp.skip (.seq (Wp.block (Wp.block (.sr (.mv rfl rfl (.mv rfl rfl ?_))))))))
   refine .tq (t_index Tryz.underlying9 rfl rfl (by omega)) rfl ?_
   try rw [Int.toNat_natCast,bt_raw']
   first | refine .tq (t_eqlT rfl rfl (by omega)) rfl ?_ | refine .tq (t_eqlF rfl rfl (by omega)) rfl ?_ | refine .tq (t_eql rfl rfl) rfl ?_
   refine .as rfl rfl (.done (.condT rfl (.sr (.mv rfl rfl ?_))))
   first | refine .tq (t_addI rfl rfl (by omega)) rfl ?_ | refine .tq (t_add rfl rfl) rfl ?_
   refine .as rfl rfl (.as rfl rfl (.done (Wp.ret ?_)))
   exact ⟨[_,_],⟨rfl,rfl,trivial⟩,by rw [hR]; rfl,rfl⟩
  have es := str_step (s := s) (i := i) (by omega) (by omega)
  rw [he,ez] at es
  by_cases c3 : bt s i = 92 ∧ bz s (i + 1) ≠ 10
  ·have hlt2 := bz_lt c3.2
   have c4 := c3.1
   have c5 : bt s (i + 1) ≠ 10 := by have := c3.2; rwa [bz_in hlt2] at this
   rw [if_pos c3] at es
   refine .seq (.sr (.mv rfl rfl (.mv rfl rfl (.tq (t_len Tryz.underlying9 rfl) rfl ?_))))
   first | refine .tq (t_lssT rfl rfl (by omega)) rfl ?_ | refine .tq (t_lssF rfl rfl (by omega)) rfl ?_ | refine .tq (t_lss rfl rfl) rfl ?_
   refine .mv rfl rfl ?_
   first | refine .gd (t_move rfl) rfl ?_ | refine .so rfl rfl ?_
   first | refine .gd (t_move rfl) rfl ?_ | refine .so rfl rfl ?_
   first | refine .gd (t_index Tryz.underlying9 rfl rfl (by omega)) rfl ?_ | refine .so rfl rfl ?_
   try rw [Int.toNat_natCast,bt_raw']
   first | refine .gd (t_neqT rfl rfl (by omega)) rfl ?_ | refine .gd (t_neqF rfl rfl (by omega)) rfl ?_ | refine .gd (t_neq rfl rfl) rfl ?_ | refine .so rfl rfl ?_
   first | refine .tq (t_pickT rfl rfl) rfl ?_ | refine .tq (t_pickF rfl rfl) rfl ?_
   refine .done (.condT rfl (Wp.skip (.seq (Wp.block (Wp.block (.sr (.mv rfl rfl (.mv rfl rfl ?_))))))))
   refine .tq (t_index Tryz.underlying9 rfl rfl (by omega)) rfl ?_
   try rw [Int.toNat_natCast,bt_raw']
   first | refine .tq (t_eqlT rfl rfl (by omega)) rfl ?_ | refine .tq (t_eqlF rfl rfl (by omega)) rfl ?_ | refine .tq (t_eql rfl rfl) rfl ?_
   refine .as rfl rfl (.done (.condF rfl (.sr (.mv rfl rfl (.mv rfl rfl ?_)))))
   refine .tq (t_index Tryz.underlying9 rfl rfl (by omega)) rfl ?_
   try rw [Int.toNat_natCast,bt_raw']
   first | refine .tq (t_eqlT rfl rfl (by omega)) rfl ?_ | refine .tq (t_eqlF rfl rfl (by omega)) rfl ?_ | refine .tq (t_eql rfl rfl) rfl ?_
   refine .mv rfl rfl ?_
   first | refine .gd (t_move rfl) rfl ?_ | refine .so rfl rfl ?_
   first | refine .gd (t_addI rfl rfl (by omega)) rfl ?_ | refine .gd (t_add rfl rfl) rfl ?_ | refine .so rfl rfl ?_
   first | refine .gd (t_move rfl) rfl ?_ | refine .so rfl rfl ?_
   first | refine .gd (t_len Tryz.underlying9 rfl) rfl ?_ | refine .so rfl rfl ?_
   first | refine .gd (t_lssT rfl rfl (by omega)) rfl ?_ | refine .gd (t_lssF rfl rfl (by omega)) rfl ?_ | refine .gd (t_lss rfl rfl) rfl ?_ | refine .so rfl rfl ?_
   first | refine .tq (t_pickT rfl rfl) rfl ?_ | refine .tq (t_pickF rfl rfl) rfl ?_
   refine .mv rfl rfl ?_
   first | refine .gd (t_move rfl) rfl ?_ | refine .so rfl rfl ?_
   first | refine .gd (t_move rfl) rfl ?_ | refine .so rfl rfl ?_
   first | refine .gd (t_addI rfl rfl (by omega)) rfl ?_ | refine .gd (t_add rfl rfl) rfl ?_ | refine .so rfl rfl ?_
   first | refine .gd (t_index Tryz.underlying9 rfl rfl (by omega)) rfl ?_ | refine .so rfl rfl ?_
   try rw [show ((i : Int) + 1).toNat = i + 1 from by omega,bt_raw']
   first | refine .gd (t_neqT rfl rfl (by omega)) rfl ?_ | refine .gd (t_neqF rfl rfl (by omega)) rfl ?_ | refine .gd (t_neq rfl rfl) rfl ?_ | refine .so rfl rfl ?_
   first | refine .tq (t_pickT rfl rfl) rfl ?_ | refine .tq (t_pickF rfl rfl) rfl ?_
   refine .as rfl rfl (.done (.condT rfl (Wp.region (.mv rfl rfl ?_))))
   first | refine .tq (t_addI rfl rfl (by omega)) rfl ?_ | refine .tq (t_add rfl rfl) rfl ?_
   refine .as rfl rfl (.done (Wp.region (.mv rfl rfl ?_)))
   first | refine .tq (t_addI rfl rfl (by omega)) rfl ?_ | refine .tq (t_add rfl rfl) rfl ?_
   refine .as rfl rfl (.done ?_)
   exact ⟨i + 2,by repeat (first | exact .nil | refine .cons (by first | rfl | (congr 2; omega)) ?_),⟨by omega,by omega,es.symm,rfl⟩,by omega⟩
  rw [if_neg c3] at es
  by_cases c4 : bt s i = 92
  ·by_cases c6 : i + 1 < s.size
   ·have c5 : bt s (i + 1) = 10 := by
     rcases Classical.em (bt s (i + 1) = 10) with h | h
     ·exact h
     ·exact absurd ⟨c4,by rw [bz_in c6]; exact h⟩ c3
    refine .seq (.sr (.mv rfl rfl (.mv rfl rfl (.tq (t_len Tryz.underlying9 rfl) rfl ?_))))
    first | refine .tq (t_lssT rfl rfl (by omega)) rfl ?_ | refine .tq (t_lssF rfl rfl (by omega)) rfl ?_ | refine .tq (t_lss rfl rfl) rfl ?_
    refine .mv rfl rfl ?_
    first | refine .gd (t_move rfl) rfl ?_ | refine .so rfl rfl ?_
    first | refine .gd (t_move rfl) rfl ?_ | refine .so rfl rfl ?_
    first | refine .gd (t_index Tryz.underlying9 rfl rfl (by omega)) rfl ?_ | refine .so rfl rfl ?_
    try rw [Int.toNat_natCast,bt_raw']
    first | refine .gd (t_neqT rfl rfl (by omega)) rfl ?_ | refine .gd (t_neqF rfl rfl (by omega)) rfl ?_ | refine .gd (t_neq rfl rfl) rfl ?_ | refine .so rfl rfl ?_
    first | refine .tq (t_pickT rfl rfl) rfl ?_ | refine .tq (t_pickF rfl rfl) rfl ?_
    refine .done (.condT rfl (Wp.skip (.seq (Wp.block (Wp.block (.sr (.mv rfl rfl (.mv rfl rfl ?_))))))))
    refine .tq (t_index Tryz.underlying9 rfl rfl (by omega)) rfl ?_
    try rw [Int.toNat_natCast,bt_raw']
    first | refine .tq (t_eqlT rfl rfl (by omega)) rfl ?_ | refine .tq (t_eqlF rfl rfl (by omega)) rfl ?_ | refine .tq (t_eql rfl rfl) rfl ?_
    refine .as rfl rfl (.done (.condF rfl (.sr (.mv rfl rfl (.mv rfl rfl ?_)))))
    refine .tq (t_index Tryz.underlying9 rfl rfl (by omega)) rfl ?_
    try rw [Int.toNat_natCast,bt_raw']
    first | refine .tq (t_eqlT rfl rfl (by omega)) rfl ?_ | refine .tq (t_eqlF rfl rfl (by omega)) rfl ?_ | refine .tq (t_eql rfl rfl) rfl ?_
    refine .mv rfl rfl ?_
    first | refine .gd (t_move rfl) rfl ?_ | refine .so rfl rfl ?_
    first | refine .gd (t_addI rfl rfl (by omega)) rfl ?_ | refine .gd (t_add rfl rfl) rfl ?_ | refine .so rfl rfl ?_
    first | refine .gd (t_move rfl) rfl ?_ | refine .so rfl rfl ?_
    first | refine .gd (t_len Tryz.underlying9 rfl) rfl ?_ | refine .so rfl rfl ?_
    first | refine .gd (t_lssT rfl rfl (by omega)) rfl ?_ | refine .gd (t_lssF rfl rfl (by omega)) rfl ?_ | refine .gd (t_lss rfl rfl) rfl ?_ | refine .so rfl rfl ?_
    first | refine .tq (t_pickT rfl rfl) rfl ?_ | refine .tq (t_pickF rfl rfl) rfl ?_
    refine .mv rfl rfl ?_
    first | refine .gd (t_move rfl) rfl ?_ | refine .so rfl rfl ?_
    first | refine .gd (t_move rfl) rfl ?_ | refine .so rfl rfl ?_
    first | refine .gd (t_addI rfl rfl (by omega)) rfl ?_ | refine .gd (t_add rfl rfl) rfl ?_ | refine .so rfl rfl ?_
    first | refine .gd (t_index Tryz.underlying9 rfl rfl (by omega)) rfl ?_ | refine .so rfl rfl ?_
    try rw [show ((i : Int) + 1).toNat = i + 1 from by omega,bt_raw']
    first | refine .gd (t_neqT rfl rfl (by omega)) rfl ?_ | refine .gd (t_neqF rfl rfl (by omega)) rfl ?_ | refine .gd (t_neq rfl rfl) rfl ?_ | refine .so rfl rfl ?_
    first | refine .tq (t_pickT rfl rfl) rfl ?_ | refine .tq (t_pickF rfl rfl) rfl ?_
    refine .as rfl rfl (.done (.condF rfl (Wp.skip (Wp.region (.mv rfl rfl ?_)))))
    first | refine .tq (t_addI rfl rfl (by omega)) rfl ?_ | refine .tq (t_add rfl rfl) rfl ?_
    refine .as rfl rfl (.done ?_)
    exact ⟨i + 1,by repeat (first | exact .nil | refine .cons rfl ?_),⟨by omega,by omega,es.symm,rfl⟩,by omega⟩
   ·skip
    refine .seq (.sr (.mv rfl rfl (.mv rfl rfl (.tq (t_len Tryz.underlying9 rfl) rfl ?_))))
    first | refine .tq (t_lssT rfl rfl (by omega)) rfl ?_ | refine .tq (t_lssF rfl rfl (by omega)) rfl ?_ | refine .tq (t_lss rfl rfl) rfl ?_
    refine .mv rfl rfl ?_
    first | refine .gd (t_move rfl) rfl ?_ | refine .so rfl rfl ?_
    first | refine .gd (t_move rfl) rfl ?_ | refine .so rfl rfl ?_
    first | refine .gd (t_index Tryz.underlying9 rfl rfl (by omega)) rfl ?_ | refine .so rfl rfl ?_
    try rw [Int.toNat_natCast,bt_raw']
    first | refine .gd (t_neqT rfl rfl (by omega)) rfl ?_ | refine .gd (t_neqF rfl rfl (by omega)) rfl ?_ | refine .gd (t_neq rfl rfl) rfl ?_ | refine .so rfl rfl ?_
    first | refine .tq (t_pickT rfl rfl) rfl ?_ | refine .tq (t_pickF rfl rfl) rfl ?_
    refine .done (.condT rfl (Wp.skip (.seq (Wp.block (Wp.block (.sr (.mv rfl rfl (.mv rfl rfl ?_))))))))
    refine .tq (t_index Tryz.underlying9 rfl rfl (by omega)) rfl ?_
    try rw [Int.toNat_natCast,bt_raw']
    first | refine .tq (t_eqlT rfl rfl (by omega)) rfl ?_ | refine .tq (t_eqlF rfl rfl (by omega)) rfl ?_ | refine .tq (t_eql rfl rfl) rfl ?_
    refine .as rfl rfl (.done (.condF rfl (.sr (.mv rfl rfl (.mv rfl rfl ?_)))))
    refine .tq (t_index Tryz.underlying9 rfl rfl (by omega)) rfl ?_
    try rw [Int.toNat_natCast,bt_raw']
    first | refine .tq (t_eqlT rfl rfl (by omega)) rfl ?_ | refine .tq (t_eqlF rfl rfl (by omega)) rfl ?_ | refine .tq (t_eql rfl rfl) rfl ?_
    refine .mv rfl rfl ?_
    first | refine .gd (t_move rfl) rfl ?_ | refine .so rfl rfl ?_
    first | refine .gd (t_addI rfl rfl (by omega)) rfl ?_ | refine .gd (t_add rfl rfl) rfl ?_ | refine .so rfl rfl ?_
    first | refine .gd (t_move rfl) rfl ?_ | refine .so rfl rfl ?_
    first | refine .gd (t_len Tryz.underlying9 rfl) rfl ?_ | refine .so rfl rfl ?_
    first | refine .gd (t_lssT rfl rfl (by omega)) rfl ?_ | refine .gd (t_lssF rfl rfl (by omega)) rfl ?_ | refine .gd (t_lss rfl rfl) rfl ?_ | refine .so rfl rfl ?_
    first | refine .tq (t_pickT rfl rfl) rfl ?_ | refine .tq (t_pickF rfl rfl) rfl ?_
    refine .mv rfl rfl ?_
    first | refine .gd (t_move rfl) rfl ?_ | refine .so rfl rfl ?_
    first | refine .gd (t_move rfl) rfl ?_ | refine .so rfl rfl ?_
    first | refine .gd (t_addI rfl rfl (by omega)) rfl ?_ | refine .gd (t_add rfl rfl) rfl ?_ | refine .so rfl rfl ?_
    first | refine .gd (t_index Tryz.underlying9 rfl rfl (by omega)) rfl ?_ | refine .so rfl rfl ?_
    try rw [show ((i : Int) + 1).toNat = i + 1 from by omega,bt_raw']
    first | refine .gd (t_neqT rfl rfl (by omega)) rfl ?_ | refine .gd (t_neqF rfl rfl (by omega)) rfl ?_ | refine .gd (t_neq rfl rfl) rfl ?_ | refine .so rfl rfl ?_
    first | refine .tq (t_pickT rfl rfl) rfl ?_ | refine .tq (t_pickF rfl rfl) rfl ?_
    refine .as rfl rfl (.done (.condF rfl (Wp.skip (Wp.region (.mv rfl rfl ?_)))))
    first | refine .tq (t_addI rfl rfl (by omega)) rfl ?_ | refine .tq (t_add rfl rfl) rfl ?_
    refine .as rfl rfl (.done ?_)
    exact ⟨i + 1,by repeat (first | exact .nil | refine .cons rfl ?_),⟨by omega,by omega,es.symm,rfl⟩,by omega⟩
  ·skip
   refine .seq (.sr (.mv rfl rfl (.mv rfl rfl (.tq (t_len Tryz.underlying9 rfl) rfl ?_))))
   first | refine .tq (t_lssT rfl rfl (by omega)) rfl ?_ | refine .tq (t_lssF rfl rfl (by omega)) rfl ?_ | refine .tq (t_lss rfl rfl) rfl ?_
   refine .mv rfl rfl ?_
   first | refine .gd (t_move rfl) rfl ?_ | refine .so rfl rfl ?_
   first | refine .gd (t_move rfl) rfl ?_ | refine .so rfl rfl ?_
   first | refine .gd (t_index Tryz.underlying9 rfl rfl (by omega)) rfl ?_ | refine .so rfl rfl ?_
   try rw [Int.toNat_natCast,bt_raw']
   first | refine .gd (t_neqT rfl rfl (by omega)) rfl ?_ | refine .gd (t_neqF rfl rfl (by omega)) rfl ?_ | refine .gd (t_neq rfl rfl) rfl ?_ | refine .so rfl rfl ?_
   first | refine .tq (t_pickT rfl rfl) rfl ?_ | refine .tq (t_pickF rfl rfl) rfl ?_
   refine .done (.condT rfl (Wp.skip (.seq (Wp.block (Wp.block (.sr (.mv rfl rfl (.mv rfl rfl ?_))))))))
   refine .tq (t_index Tryz.underlying9 rfl rfl (by omega)) rfl ?_
   try rw [Int.toNat_natCast,bt_raw']
   first | refine .tq (t_eqlT rfl rfl (by omega)) rfl ?_ | refine .tq (t_eqlF rfl rfl (by omega)) rfl ?_ | refine .tq (t_eql rfl rfl) rfl ?_
   refine .as rfl rfl (.done (.condF rfl (.sr (.mv rfl rfl (.mv rfl rfl ?_)))))
   refine .tq (t_index Tryz.underlying9 rfl rfl (by omega)) rfl ?_
   try rw [Int.toNat_natCast,bt_raw']
   first | refine .tq (t_eqlT rfl rfl (by omega)) rfl ?_ | refine .tq (t_eqlF rfl rfl (by omega)) rfl ?_ | refine .tq (t_eql rfl rfl) rfl ?_
   refine .mv rfl rfl ?_
   first | refine .gd (t_move rfl) rfl ?_ | refine .so rfl rfl ?_
   first | refine .gd (t_addI rfl rfl (by omega)) rfl ?_ | refine .gd (t_add rfl rfl) rfl ?_ | refine .so rfl rfl ?_
   first | refine .gd (t_move rfl) rfl ?_ | refine .so rfl rfl ?_
   first | refine .gd (t_len Tryz.underlying9 rfl) rfl ?_ | refine .so rfl rfl ?_
   first | refine .gd (t_lssT rfl rfl (by omega)) rfl ?_ | refine .gd (t_lssF rfl rfl (by omega)) rfl ?_ | refine .gd (t_lss rfl rfl) rfl ?_ | refine .so rfl rfl ?_
   first | refine .tq (t_pickT rfl rfl) rfl ?_ | refine .tq (t_pickF rfl rfl) rfl ?_
   refine .mv rfl rfl ?_
   first | refine .gd (t_move rfl) rfl ?_ | refine .so rfl rfl ?_
   first | refine .gd (t_move rfl) rfl ?_ | refine .so rfl rfl ?_
   first | refine .gd (t_addI rfl rfl (by omega)) rfl ?_ | refine .gd (t_add rfl rfl) rfl ?_ | refine .so rfl rfl ?_
   first | refine .gd (t_index Tryz.underlying9 rfl rfl (by omega)) rfl ?_ | refine .so rfl rfl ?_
   try rw [show ((i : Int) + 1).toNat = i + 1 from by omega,bt_raw']
   first | refine .gd (t_neqT rfl rfl (by omega)) rfl ?_ | refine .gd (t_neqF rfl rfl (by omega)) rfl ?_ | refine .gd (t_neq rfl rfl) rfl ?_ | refine .so rfl rfl ?_
   first | refine .tq (t_pickT rfl rfl) rfl ?_ | refine .tq (t_pickF rfl rfl) rfl ?_
   refine .as rfl rfl (.done (.condF rfl (Wp.skip (Wp.region (.mv rfl rfl ?_)))))
   first | refine .tq (t_addI rfl rfl (by omega)) rfl ?_ | refine .tq (t_add rfl rfl) rfl ?_
   refine .as rfl rfl (.done ?_)
   exact ⟨i + 1,by repeat (first | exact .nil | refine .cons rfl ?_),⟨by omega,by omega,es.symm,rfl⟩,by omega⟩
 ·have hR : strR s = (scan noNl s 1,108) := by unfold strR; rw [← he,str_nl (bz_out (by omega))]
  refine .seq (.sr (.mv rfl rfl (.mv rfl rfl (.tq (t_len Tryz.underlying9 rfl) rfl ?_))))
  first | refine .tq (t_lssT rfl rfl (by omega)) rfl ?_ | refine .tq (t_lssF rfl rfl (by omega)) rfl ?_ | refine .tq (t_lss rfl rfl) rfl ?_
  refine .mv rfl rfl ?_
  first | refine .gd (t_move rfl) rfl ?_ | refine .so rfl rfl ?_
  first | refine .gd (t_move rfl) rfl ?_ | refine .so rfl rfl ?_
  first | refine .gd (t_index Tryz.underlying9 rfl rfl (by omega)) rfl ?_ | refine .so rfl rfl ?_
  try rw [Int.toNat_natCast,bt_raw']
  first | refine .gd (t_neqT rfl rfl (by omega)) rfl ?_ | refine .gd (t_neqF rfl rfl (by omega)) rfl ?_ | refine .gd (t_neq rfl rfl) rfl ?_ | refine .so rfl rfl ?_
  first | refine .tq (t_pickT rfl rfl) rfl ?_ | refine .tq (t_pickF rfl rfl) rfl ?_
  refine .done (.condF rfl (Wp.exit (.sr (.mv rfl rfl (Rg.wd trivial (w_call Tryz.call88 rfl (scan_ok Tryz.call121 (fun _ _ _ => noNl2_ok) hs h0)) rfl ?_)))))
  rintro _ _ ⟨rfl,rfl⟩
  refine .as rfl rfl (.as rfl rfl (.done (Wp.ret ?_)))
  exact ⟨[_,_],⟨rfl,rfl,trivial⟩,by rw [hR]; rfl,rfl⟩
theorem tab_ext {w w' : World} {nm : String} {k : IntKind} {zs : List Int} (h : TabIs Tryz.prog w nm k zs) (x : Ext w w') : TabIs Tryz.prog w' nm k zs := by
 unfold TabIs World.var? at *
 cases hg : Tryz.prog.globalNamed nm with
 | none => rw [hg] at h; cases h
 | some g =>
  rw [hg] at h
  simp only [Option.bind_some] at h ⊢
  have hlt : g < w.heap.size := by
   rcases Nat.lt_or_ge g w.heap.size with a | a
   ·exact a
   ·rw [Array.getElem?_eq_none a] at h; cases h
  rw [x.below.block g hlt]
  exact h
def Asc (w : World) : Prop := TabIs Tryz.prog w "strings.asciiSpace" .u8 asciiSpaceTab
theorem Asc.ext {w w' : World} (h : Asc w) (x : Ext w w') : Asc w' := tab_ext h x
theorem fields_ok {w : World} {s : ByteArray} (hs : s.size < 4294967281) (hall : (s.data.toList.all fun b => decide (b.toNat < 128)) = true) (hA : Asc w) :
  Cl Tryz.prog 100 #[.string s] w (fun u w' => (∃ b,u = .slice (some ⟨b,0,none⟩) (Lib.fields s.data.toList).length (Lib.fields s.data.toList).length ∧ Var w' b (((Lib.fields s.data.toList).map fun l => (⟨l.toArray⟩ : ByteArray)).map .string) 9) ∧ Ext w w') :=
 (Cl.of (Tryz.strings_Fields s w hs (fun j b h => by simpa using List.all_eq_true.1 hall b (List.mem_of_getElem? h)) hA)).mono fun u w' ⟨h1,h2⟩ => by
  subst h1; subst h2
  refine ⟨⟨_,rfl,?_⟩,Ext.alloc _ _⟩
  rw [List.map_map]
  unfold Var World.alloc
  simp
theorem contains_ok {w : World} {b : Nat} {zs : List ByteArray} {x : ByteArray} (hz : zs.length ≤ 9223372036854775807) (hv : Var w b (zs.map .string) 9) :
  Cl Tryz.prog 94 #[.slice (some ⟨b,0,none⟩) zs.length zs.length,.string x] w (fun u w' => u = .bool (containsS zs x) ∧ w = w') :=
 (Cl.of (Tryz.slices_Contains_string b 0 zs.length zs.length zs x w (Nat.le_refl _) hz (fun j hj => hv.cells j _ (by simp [hj])))).mono fun _ _ ⟨h1,h2⟩ => ⟨by rw [h1,List.take_length],h2.symm⟩
theorem prefix_ok {w : World} {s p : ByteArray} : Cl Tryz.prog 89 #[.string s,.string p] w (fun u w' => u = .bool (hasPrefix s.data.toList p.data.toList) ∧ w = w') :=
 (Cl.of (Tryz.strings_HasPrefix s p w)).mono fun _ _ ⟨h1,h2⟩ => ⟨h1,h2.symm⟩
theorem pre_iff (s : ByteArray) : hasPrefix s.data.toList [47,47] = true ↔ bz s 0 = 47 ∧ bz s 1 = 47 := by
 unfold bz bt hasPrefix
 rw [← list_len]
 have hu : ∀ x : UInt8,x = 47 ↔ (x.toNat : Int) = 47 := fun x => by
  constructor
  ·rintro rfl; rfl
  ·intro h
   apply UInt8.toNat_inj.1
   have : (47 : UInt8).toNat = 47 := rfl
   omega
 generalize s.data.toList = l
 match l with
 | [] => simp [List.isPrefixOf]
 | [x] => simp [List.isPrefixOf]
 | x :: y :: r =>
  rw [if_pos (by simp),if_pos (by simp)]
  show ((47 == x) && ((47 == y) && true)) = true ↔ (x.toNat : Int) = 47 ∧ (y.toNat : Int) = 47
  rw [← hu,← hu,Bool.and_true,Bool.and_eq_true,beq_iff_eq,beq_iff_eq,eq_comm,@eq_comm _ (47 : UInt8) y]
theorem two_nl {s : ByteArray} (h : isTwo (s.extract 0 2) = true) (hs : 1 < s.size) : bz s 1 ≠ 10 := by
 have h1 := (containsS_iff _ _).1 h
 have h2 : (twoList.all fun x => decide (bt x 1 ≠ 10)) = true := by decide +kernel
 have h3 := of_decide_eq_true (List.all_eq_true.1 h2 _ h1)
 rw [bz_in hs]
 intro e
 apply h3
 unfold bt at e ⊢
 rw [list_front,List.getD_eq_getElem?_getD,List.getElem?_take,if_pos (by omega)]
 rw [List.getD_eq_getElem?_getD] at e
 exact e
theorem keywords_ok {w : World} (hA : Asc w) : Cl Tryz.prog 95 #[] w (fun u w' => (∃ b,u = .slice (some ⟨b,0,none⟩) kwList.length kwList.length ∧ Var w' b (kwList.map .string) 9) ∧ Ext w w') := by
 have el : (Lib.fields kwText.data.toList).length = kwList.length := by unfold kwList; rw [List.length_map]
 refine Cl.enter Tryz.func95 rfl Tryz.ntmps95 rfl rfl (.sr (.as rfl rfl (.done (.sr ?_))))
 refine Rg.wd trivial (w_call Tryz.call100 rfl (fields_ok (s := kwText) (by decide) (by decide +kernel) hA)) rfl ?_
 rintro _ w1 ⟨⟨b,rfl,hv⟩,hx⟩
 rw [el]
 refine .as rfl rfl (.done (Wp.ret ?_))
 exact ⟨[_],⟨rfl,trivial⟩,⟨b,rfl,hv⟩,hx⟩
theorem twos_ok {w : World} (hA : Asc w) : Cl Tryz.prog 97 #[] w (fun u w' => (∃ b,u = .slice (some ⟨b,0,none⟩) twoList.length twoList.length ∧ Var w' b (twoList.map .string) 9) ∧ Ext w w') := by
 have el : (Lib.fields twoText.data.toList).length = twoList.length := by unfold twoList; rw [List.length_map]
 refine Cl.enter Tryz.func97 rfl Tryz.ntmps97 rfl rfl (.sr (.as rfl rfl (.done (.sr ?_))))
 refine Rg.wd trivial (w_call Tryz.call100 rfl (fields_ok (s := twoText) (by decide) (by decide +kernel) hA)) rfl ?_
 rintro _ w1 ⟨⟨b,rfl,hv⟩,hx⟩
 rw [el]
 refine .as rfl rfl (.done (Wp.ret ?_))
 exact ⟨[_],⟨rfl,trivial⟩,⟨b,rfl,hv⟩,hx⟩
theorem kw_len : kwList.length ≤ 9223372036854775807 := by decide +kernel
theorem two_len : twoList.length ≤ 9223372036854775807 := by decide +kernel
theorem first_ok {w : World} {s : ByteArray} (hs : s.size ≤ 2000) (h0 : 0 < s.size) (hA : Asc w) : Cl Tryz.prog 46 #[.string s] w (fun u w' => u = .tuple #[.int .i64 (tok s).1,.int .i64 (tok s).2] ∧ Ext w w') := by
 have hx := Ext.refl w
 obtain ⟨c0,hc0⟩ : ∃ n,(s.data.toList.getD 0 0).toNat = n := ⟨_,rfl⟩
 have hb : bt s 0 = c0 := congrArg Nat.cast hc0
 have hlt : c0 < 256 := by rw [← hc0]; exact UInt8.toNat_lt _
 cases c1 : isSp c0 with
 | true =>
  have hR : tok s = (scan isSp s 0,101) := by unfold tok; rw [hb,if_pos c1]
  refine Cl.enter Tryz.func46 rfl Tryz.ntmps46 rfl rfl (.sr (.as rfl rfl (.as rfl rfl (.done (.seq (.sr (.mv rfl rfl ?_)))))))
  refine .tq (t_index Tryz.underlying9 rfl rfl (by omega)) rfl ?_
  rw [show (0 : Int).toNat = 0 from rfl,hc0]
  refine .as rfl rfl (.done (Wp.block (.sr (.mv rfl rfl (Rg.wd trivial (w_call Tryz.call87 rfl (isSpace_ok hlt)) rfl ?_)))))
  rintro _ _ ⟨rfl,rfl⟩
  rw [c1]
  refine .as rfl rfl (.done (.condT rfl (.sr (.mv rfl rfl (Rg.wd trivial (w_call Tryz.call88 rfl (scan_ok (i0 := 0) Tryz.call87 (fun _ n hn => isSpace_ok hn) hs (Nat.zero_le _))) rfl ?_)))))
  rintro _ _ ⟨rfl,rfl⟩
  refine .as rfl rfl (.as rfl rfl (.done (Wp.ret ?_)))
  exact ⟨[_,_],⟨rfl,rfl,trivial⟩,by rw [hR]; rfl,hx⟩
 | false =>
  have d1 : ¬ isSp c0 = true := by rw [c1]; simp
  cases c2 : hasPrefix s.data.toList [47,47] with
  | true =>
   have d2 := (pre_iff s).1 c2
   have hR : tok s = (scan noNl s 0,102) := by unfold tok; rw [hb,if_neg d1,if_pos d2]
   refine Cl.enter Tryz.func46 rfl Tryz.ntmps46 rfl rfl (.sr (.as rfl rfl (.as rfl rfl (.done (.seq (.sr (.mv rfl rfl ?_)))))))
   refine .tq (t_index Tryz.underlying9 rfl rfl (by omega)) rfl ?_
   rw [show (0 : Int).toNat = 0 from rfl,hc0]
   refine .as rfl rfl (.done (Wp.block (.sr (.mv rfl rfl (Rg.wd trivial (w_call Tryz.call87 rfl (isSpace_ok hlt)) rfl ?_)))))
   rintro _ _ ⟨rfl,rfl⟩
   rw [c1]
   refine .as rfl rfl (.done (.condF rfl (.sr (.mv rfl rfl (Rg.wd trivial (w_call Tryz.call89 rfl prefix_ok) rfl ?_)))))
   rintro _ _ ⟨rfl,rfl⟩
   rw [c2]
   refine .as rfl rfl (.done (.condT rfl (.sr (.mv rfl rfl (Rg.wd trivial (w_call Tryz.call88 rfl (scan_ok (i0 := 0) Tryz.call90 (fun _ _ _ => noNl1_ok) hs (Nat.zero_le _))) rfl ?_)))))
   rintro _ _ ⟨rfl,rfl⟩
   refine .as rfl rfl (.as rfl rfl (.done (Wp.ret ?_)))
   exact ⟨[_,_],⟨rfl,rfl,trivial⟩,by rw [hR]; rfl,hx⟩
  | false =>
   have d2 : ¬ (bz s 0 = 47 ∧ bz s 1 = 47) := fun h => by rw [(pre_iff s).2 h] at c2; cases c2
   cases c3 : isLt c0 with
   | true =>
    have k2 := (scan_spec isId s 0).2.1 (Nat.zero_le _)
    cases ck : isKw (s.extract 0 (scan isId s 0)) with
    | true =>
     have hR : tok s = (scan isId s 0,104) := by unfold tok; rw [hb,if_neg d1,if_neg d2,if_pos c3,if_pos ck]
     refine Cl.enter Tryz.func46 rfl Tryz.ntmps46 rfl rfl (.sr (.as rfl rfl (.as rfl rfl (.done (.seq (.sr (.mv rfl rfl ?_)))))))
     refine .tq (t_index Tryz.underlying9 rfl rfl (by omega)) rfl ?_
     rw [show (0 : Int).toNat = 0 from rfl,hc0]
     refine .as rfl rfl (.done (Wp.block (.sr (.mv rfl rfl (Rg.wd trivial (w_call Tryz.call87 rfl (isSpace_ok hlt)) rfl ?_)))))
     rintro _ _ ⟨rfl,rfl⟩
     rw [c1]
     refine .as rfl rfl (.done (.condF rfl (.sr (.mv rfl rfl (Rg.wd trivial (w_call Tryz.call89 rfl prefix_ok) rfl ?_)))))
     rintro _ _ ⟨rfl,rfl⟩
     rw [c2]
     refine .as rfl rfl (.done (.condF rfl (.sr (.mv rfl rfl (Rg.wd trivial (w_call Tryz.call91 rfl isLetter_ok) rfl ?_)))))
     rintro _ _ ⟨rfl,rfl⟩
     rw [c3]
     refine .as rfl rfl (.done (.condT rfl (.sr (.mv rfl rfl (Rg.wd trivial (w_call Tryz.call88 rfl (scan_ok (i0 := 0) Tryz.call92 (fun _ _ _ => isId_ok) hs (Nat.zero_le _))) rfl ?_)))))
     rintro _ _ ⟨rfl,rfl⟩
     refine .as rfl rfl (.done (.seq ?_))
     refine Wp.seq (Wp.draw [1,2,3,0,4] [] mixed (by kernel_rfl) (by kernel_rfl) ?_)
     intro w1 hx1 _
     replace hx := hx.ext hx1
     refine .mv rfl rfl (.mv rfl rfl ?_)
     refine .tq (t_sliceS Tryz.underlying9 rfl rfl rfl (by omega)) rfl ?_
     refine Rg.wdB trivial rfl (w_call Tryz.call95 rfl (keywords_ok (hA.ext hx))) rfl (fun _ _ h => h.2) ?_
     rintro _ w2 ⟨⟨bk,rfl,hvk⟩,hx2⟩
     replace hx := hx.ext hx2
     refine Rg.wdB trivial rfl (w_call Tryz.call94 rfl (contains_ok (zs := kwList) (x := s.extract 0 (scan isId s 0)) kw_len hvk)) rfl (fun _ _ h => h.2 ▸ Below.refl _ _) ?_
     rintro _ _ ⟨rfl,rfl⟩
     rw [show containsS kwList _ = _ from ck]
     refine .done (.condT rfl (.sr (.mv rfl rfl (.as rfl rfl (.as rfl rfl (.done (Wp.ret ?_)))))))
     exact ⟨[_,_],⟨rfl,rfl,trivial⟩,by rw [hR]; rfl,hx⟩
    | false =>
     have hR : tok s = (scan isId s 0,103) := by unfold tok; rw [hb,if_neg d1,if_neg d2,if_pos c3,if_neg (by rw [ck]; simp)]
     refine Cl.enter Tryz.func46 rfl Tryz.ntmps46 rfl rfl (.sr (.as rfl rfl (.as rfl rfl (.done (.seq (.sr (.mv rfl rfl ?_)))))))
     refine .tq (t_index Tryz.underlying9 rfl rfl (by omega)) rfl ?_
     rw [show (0 : Int).toNat = 0 from rfl,hc0]
     refine .as rfl rfl (.done (Wp.block (.sr (.mv rfl rfl (Rg.wd trivial (w_call Tryz.call87 rfl (isSpace_ok hlt)) rfl ?_)))))
     rintro _ _ ⟨rfl,rfl⟩
     rw [c1]
     refine .as rfl rfl (.done (.condF rfl (.sr (.mv rfl rfl (Rg.wd trivial (w_call Tryz.call89 rfl prefix_ok) rfl ?_)))))
     rintro _ _ ⟨rfl,rfl⟩
     rw [c2]
     refine .as rfl rfl (.done (.condF rfl (.sr (.mv rfl rfl (Rg.wd trivial (w_call Tryz.call91 rfl isLetter_ok) rfl ?_)))))
     rintro _ _ ⟨rfl,rfl⟩
     rw [c3]
     refine .as rfl rfl (.done (.condT rfl (.sr (.mv rfl rfl (Rg.wd trivial (w_call Tryz.call88 rfl (scan_ok (i0 := 0) Tryz.call92 (fun _ _ _ => isId_ok) hs (Nat.zero_le _))) rfl ?_)))))
     rintro _ _ ⟨rfl,rfl⟩
     refine .as rfl rfl (.done (.seq ?_))
     refine Wp.seq (Wp.draw [1,2,3,0,4] [] mixed (by kernel_rfl) (by kernel_rfl) ?_)
     intro w1 hx1 _
     replace hx := hx.ext hx1
     refine .mv rfl rfl (.mv rfl rfl ?_)
     refine .tq (t_sliceS Tryz.underlying9 rfl rfl rfl (by omega)) rfl ?_
     refine Rg.wdB trivial rfl (w_call Tryz.call95 rfl (keywords_ok (hA.ext hx))) rfl (fun _ _ h => h.2) ?_
     rintro _ w2 ⟨⟨bk,rfl,hvk⟩,hx2⟩
     replace hx := hx.ext hx2
     refine Rg.wdB trivial rfl (w_call Tryz.call94 rfl (contains_ok (zs := kwList) (x := s.extract 0 (scan isId s 0)) kw_len hvk)) rfl (fun _ _ h => h.2 ▸ Below.refl _ _) ?_
     rintro _ _ ⟨rfl,rfl⟩
     rw [show containsS kwList _ = _ from ck]
     refine .done (.condF rfl (Wp.skip (.sr (.mv rfl rfl (.as rfl rfl (.as rfl rfl (.done (Wp.ret ?_))))))))
     exact ⟨[_,_],⟨rfl,rfl,trivial⟩,by rw [hR]; rfl,hx⟩
   | false =>
    have d3 : ¬ isLt c0 = true := by rw [c3]; simp
    cases c4 : isDg c0 with
    | true =>
     have hR : tok s = (scan isDg s 0,105) := by unfold tok; rw [hb,if_neg d1,if_neg d2,if_neg d3,if_pos c4]
     refine Cl.enter Tryz.func46 rfl Tryz.ntmps46 rfl rfl (.sr (.as rfl rfl (.as rfl rfl (.done (.seq (.sr (.mv rfl rfl ?_)))))))
     refine .tq (t_index Tryz.underlying9 rfl rfl (by omega)) rfl ?_
     rw [show (0 : Int).toNat = 0 from rfl,hc0]
     refine .as rfl rfl (.done (Wp.block (.sr (.mv rfl rfl (Rg.wd trivial (w_call Tryz.call87 rfl (isSpace_ok hlt)) rfl ?_)))))
     rintro _ _ ⟨rfl,rfl⟩
     rw [c1]
     refine .as rfl rfl (.done (.condF rfl (.sr (.mv rfl rfl (Rg.wd trivial (w_call Tryz.call89 rfl prefix_ok) rfl ?_)))))
     rintro _ _ ⟨rfl,rfl⟩
     rw [c2]
     refine .as rfl rfl (.done (.condF rfl (.sr (.mv rfl rfl (Rg.wd trivial (w_call Tryz.call91 rfl isLetter_ok) rfl ?_)))))
     rintro _ _ ⟨rfl,rfl⟩
     rw [c3]
     refine .as rfl rfl (.done (.condF rfl (.sr (.mv rfl rfl (Rg.wd trivial (w_call Tryz.call93 rfl isDigit_ok) rfl ?_)))))
     rintro _ _ ⟨rfl,rfl⟩
     rw [c4]
     refine .as rfl rfl (.done (.condT rfl (.sr (.mv rfl rfl (Rg.wd trivial (w_call Tryz.call88 rfl (scan_ok (i0 := 0) Tryz.call93 (fun _ _ _ => isDigit_ok) hs (Nat.zero_le _))) rfl ?_)))))
     rintro _ _ ⟨rfl,rfl⟩
     refine .as rfl rfl (.as rfl rfl (.done (Wp.ret ?_)))
     exact ⟨[_,_],⟨rfl,rfl,trivial⟩,by rw [hR]; rfl,hx⟩
    | false =>
     have d4 : ¬ isDg c0 = true := by rw [c4]; simp
     by_cases c5 : (c0 : Int) = 34
     ·have hR : tok s = strR s := by unfold tok strR; rw [hb,if_neg d1,if_neg d2,if_neg d3,if_neg d4,if_pos c5]; rfl
      refine Cl.enter Tryz.func46 rfl Tryz.ntmps46 rfl rfl (.sr (.as rfl rfl (.as rfl rfl (.done (.seq (.sr (.mv rfl rfl ?_)))))))
      refine .tq (t_index Tryz.underlying9 rfl rfl (by omega)) rfl ?_
      rw [show (0 : Int).toNat = 0 from rfl,hc0]
      refine .as rfl rfl (.done (Wp.block (.sr (.mv rfl rfl (Rg.wd trivial (w_call Tryz.call87 rfl (isSpace_ok hlt)) rfl ?_)))))
      rintro _ _ ⟨rfl,rfl⟩
      rw [c1]
      refine .as rfl rfl (.done (.condF rfl (.sr (.mv rfl rfl (Rg.wd trivial (w_call Tryz.call89 rfl prefix_ok) rfl ?_)))))
      rintro _ _ ⟨rfl,rfl⟩
      rw [c2]
      refine .as rfl rfl (.done (.condF rfl (.sr (.mv rfl rfl (Rg.wd trivial (w_call Tryz.call91 rfl isLetter_ok) rfl ?_)))))
      rintro _ _ ⟨rfl,rfl⟩
      rw [c3]
      refine .as rfl rfl (.done (.condF rfl (.sr (.mv rfl rfl (Rg.wd trivial (w_call Tryz.call93 rfl isDigit_ok) rfl ?_)))))
      rintro _ _ ⟨rfl,rfl⟩
      rw [c4]
      refine .as rfl rfl (.done (.condF rfl (.sr (.mv rfl rfl ?_))))
      first | refine .tq (t_eqlT rfl rfl (by omega)) rfl ?_ | refine .tq (t_eqlF rfl rfl (by omega)) rfl ?_ | refine .tq (t_eql rfl rfl) rfl ?_
      refine .as rfl rfl (.done (.condT rfl (.sr (.mv rfl rfl (Rg.wd trivial (w_call Tryz.call96 rfl (scanString_ok hs h0)) rfl ?_)))))
      rintro _ _ ⟨rfl,rfl⟩
      refine .tq (t_extract rfl rfl) rfl (.tq (t_extract rfl rfl) rfl (.as rfl rfl (.as rfl rfl (.done (Wp.ret ?_)))))
      exact ⟨[_,_],⟨rfl,rfl,trivial⟩,by rw [hR]; rfl,hx⟩
     ·by_cases hl : 1 < s.size
      ·cases c6 : isTwo (s.extract 0 2) with
       | true =>
        have hR : tok s = (2,107) := by unfold tok; rw [hb,if_neg d1,if_neg d2,if_neg d3,if_neg d4,if_neg c5,if_pos ⟨two_nl c6 hl,c6⟩]
        refine Cl.enter Tryz.func46 rfl Tryz.ntmps46 rfl rfl (.sr (.as rfl rfl (.as rfl rfl (.done (.seq (.sr (.mv rfl rfl ?_)))))))
        refine .tq (t_index Tryz.underlying9 rfl rfl (by omega)) rfl ?_
        rw [show (0 : Int).toNat = 0 from rfl,hc0]
        refine .as rfl rfl (.done (Wp.block (.sr (.mv rfl rfl (Rg.wd trivial (w_call Tryz.call87 rfl (isSpace_ok hlt)) rfl ?_)))))
        rintro _ _ ⟨rfl,rfl⟩
        rw [c1]
        refine .as rfl rfl (.done (.condF rfl (.sr (.mv rfl rfl (Rg.wd trivial (w_call Tryz.call89 rfl prefix_ok) rfl ?_)))))
        rintro _ _ ⟨rfl,rfl⟩
        rw [c2]
        refine .as rfl rfl (.done (.condF rfl (.sr (.mv rfl rfl (Rg.wd trivial (w_call Tryz.call91 rfl isLetter_ok) rfl ?_)))))
        rintro _ _ ⟨rfl,rfl⟩
        rw [c3]
        refine .as rfl rfl (.done (.condF rfl (.sr (.mv rfl rfl (Rg.wd trivial (w_call Tryz.call93 rfl isDigit_ok) rfl ?_)))))
        rintro _ _ ⟨rfl,rfl⟩
        rw [c4]
        refine .as rfl rfl (.done (.condF rfl (.sr (.mv rfl rfl ?_))))
        first | refine .tq (t_eqlT rfl rfl (by omega)) rfl ?_ | refine .tq (t_eqlF rfl rfl (by omega)) rfl ?_ | refine .tq (t_eql rfl rfl) rfl ?_
        refine .as rfl rfl (.done (.condF rfl ?_))
        refine Wp.seq (Wp.draw [0,1,2,3,5,6,4,7,8,9] [] mixed (by kernel_rfl) (by kernel_rfl) ?_)
        intro w1 hx1 _
        replace hx := hx.ext hx1
        refine .mv rfl rfl (.tq (t_len Tryz.underlying9 rfl) rfl ?_)
        first | refine .tq (t_gtrT rfl rfl (by omega)) rfl ?_ | refine .tq (t_gtrF rfl rfl (by omega)) rfl ?_ | refine .tq (t_gtr rfl rfl) rfl ?_
        refine .mv rfl rfl ?_
        first | refine .gd (t_move rfl) rfl ?_ | refine .so rfl rfl ?_
        first | refine .gd (t_sliceS Tryz.underlying9 rfl rfl rfl (by omega)) rfl ?_ | refine .so rfl rfl ?_
        refine Rg.wdB ⟨_,rfl,rfl⟩ rfl (w_call Tryz.call97 rfl (twos_ok (hA.ext hx))) rfl (fun _ _ h => h.2) ?_
        rintro _ w2 ⟨⟨bk,rfl,hvk⟩,hx2⟩
        replace hx := hx.ext hx2
        refine Rg.wdB ⟨_,rfl,rfl⟩ rfl (w_call Tryz.call94 rfl (contains_ok (zs := twoList) (x := s.extract 0 2) two_len hvk)) rfl (fun _ _ h => h.2 ▸ Below.refl _ _) ?_
        rintro _ _ ⟨rfl,rfl⟩
        rw [show containsS twoList _ = _ from c6]
        first | refine .tq (t_pickT rfl rfl) rfl ?_ | refine .tq (t_pickF rfl rfl) rfl ?_
        refine .as rfl rfl (.done (.condT rfl (.sr (.as rfl rfl (.as rfl rfl (.done (Wp.ret ?_)))))))
        exact ⟨[_,_],⟨rfl,rfl,trivial⟩,by rw [hR]; rfl,hx⟩
       | false =>
        have d6 : ¬ (bz s 1 ≠ 10 ∧ isTwo (s.extract 0 2) = true) := fun h => by rw [c6] at h; cases h.2
        cases c7 : isOne c0 with
        | true =>
         have hR : tok s = (1,107) := by unfold tok; rw [hb,if_neg d1,if_neg d2,if_neg d3,if_neg d4,if_neg c5,if_neg d6,if_pos c7]
         refine Cl.enter Tryz.func46 rfl Tryz.ntmps46 rfl rfl (.sr (.as rfl rfl (.as rfl rfl (.done (.seq (.sr (.mv rfl rfl ?_)))))))
         refine .tq (t_index Tryz.underlying9 rfl rfl (by omega)) rfl ?_
         rw [show (0 : Int).toNat = 0 from rfl,hc0]
         refine .as rfl rfl (.done (Wp.block (.sr (.mv rfl rfl (Rg.wd trivial (w_call Tryz.call87 rfl (isSpace_ok hlt)) rfl ?_)))))
         rintro _ _ ⟨rfl,rfl⟩
         rw [c1]
         refine .as rfl rfl (.done (.condF rfl (.sr (.mv rfl rfl (Rg.wd trivial (w_call Tryz.call89 rfl prefix_ok) rfl ?_)))))
         rintro _ _ ⟨rfl,rfl⟩
         rw [c2]
         refine .as rfl rfl (.done (.condF rfl (.sr (.mv rfl rfl (Rg.wd trivial (w_call Tryz.call91 rfl isLetter_ok) rfl ?_)))))
         rintro _ _ ⟨rfl,rfl⟩
         rw [c3]
         refine .as rfl rfl (.done (.condF rfl (.sr (.mv rfl rfl (Rg.wd trivial (w_call Tryz.call93 rfl isDigit_ok) rfl ?_)))))
         rintro _ _ ⟨rfl,rfl⟩
         rw [c4]
         refine .as rfl rfl (.done (.condF rfl (.sr (.mv rfl rfl ?_))))
         first | refine .tq (t_eqlT rfl rfl (by omega)) rfl ?_ | refine .tq (t_eqlF rfl rfl (by omega)) rfl ?_ | refine .tq (t_eql rfl rfl) rfl ?_
         refine .as rfl rfl (.done (.condF rfl ?_))
         refine Wp.seq (Wp.draw [0,1,2,3,5,6,4,7,8,9] [] mixed (by kernel_rfl) (by kernel_rfl) ?_)
         intro w1 hx1 _
         replace hx := hx.ext hx1
         refine .mv rfl rfl (.tq (t_len Tryz.underlying9 rfl) rfl ?_)
         first | refine .tq (t_gtrT rfl rfl (by omega)) rfl ?_ | refine .tq (t_gtrF rfl rfl (by omega)) rfl ?_ | refine .tq (t_gtr rfl rfl) rfl ?_
         refine .mv rfl rfl ?_
         first | refine .gd (t_move rfl) rfl ?_ | refine .so rfl rfl ?_
         first | refine .gd (t_sliceS Tryz.underlying9 rfl rfl rfl (by omega)) rfl ?_ | refine .so rfl rfl ?_
         refine Rg.wdB ⟨_,rfl,rfl⟩ rfl (w_call Tryz.call97 rfl (twos_ok (hA.ext hx))) rfl (fun _ _ h => h.2) ?_
         rintro _ w2 ⟨⟨bk,rfl,hvk⟩,hx2⟩
         replace hx := hx.ext hx2
         refine Rg.wdB ⟨_,rfl,rfl⟩ rfl (w_call Tryz.call94 rfl (contains_ok (zs := twoList) (x := s.extract 0 2) two_len hvk)) rfl (fun _ _ h => h.2 ▸ Below.refl _ _) ?_
         rintro _ _ ⟨rfl,rfl⟩
         rw [show containsS twoList _ = _ from c6]
         first | refine .tq (t_pickT rfl rfl) rfl ?_ | refine .tq (t_pickF rfl rfl) rfl ?_
         refine .as rfl rfl (.done (.condF rfl (.sr (.mv rfl rfl (Rg.wd trivial (w_call Tryz.call98 rfl (idx_ok (s := oneText))) rfl ?_)))))
         rintro _ _ ⟨rfl,rfl⟩
         refine .tq (t_geq rfl rfl) rfl ?_
         rw [show decide (0 ≤ indexByte oneText.data.toList ((c0 : Int)).toNat.toUInt8) = _ from c7]
         refine .as rfl rfl (.done (.condT rfl (.sr (.as rfl rfl (.as rfl rfl (.done (Wp.ret ?_)))))))
         exact ⟨[_,_],⟨rfl,rfl,trivial⟩,by rw [hR]; rfl,hx⟩
        | false =>
         have hR : tok s = (1,108) := by unfold tok; rw [hb,if_neg d1,if_neg d2,if_neg d3,if_neg d4,if_neg c5,if_neg d6,if_neg (by rw [c7]; simp)]
         refine Cl.enter Tryz.func46 rfl Tryz.ntmps46 rfl rfl (.sr (.as rfl rfl (.as rfl rfl (.done (.seq (.sr (.mv rfl rfl ?_)))))))
         refine .tq (t_index Tryz.underlying9 rfl rfl (by omega)) rfl ?_
         rw [show (0 : Int).toNat = 0 from rfl,hc0]
         refine .as rfl rfl (.done (Wp.block (.sr (.mv rfl rfl (Rg.wd trivial (w_call Tryz.call87 rfl (isSpace_ok hlt)) rfl ?_)))))
         rintro _ _ ⟨rfl,rfl⟩
         rw [c1]
         refine .as rfl rfl (.done (.condF rfl (.sr (.mv rfl rfl (Rg.wd trivial (w_call Tryz.call89 rfl prefix_ok) rfl ?_)))))
         rintro _ _ ⟨rfl,rfl⟩
         rw [c2]
         refine .as rfl rfl (.done (.condF rfl (.sr (.mv rfl rfl (Rg.wd trivial (w_call Tryz.call91 rfl isLetter_ok) rfl ?_)))))
         rintro _ _ ⟨rfl,rfl⟩
         rw [c3]
         refine .as rfl rfl (.done (.condF rfl (.sr (.mv rfl rfl (Rg.wd trivial (w_call Tryz.call93 rfl isDigit_ok) rfl ?_)))))
         rintro _ _ ⟨rfl,rfl⟩
         rw [c4]
         refine .as rfl rfl (.done (.condF rfl (.sr (.mv rfl rfl ?_))))
         first | refine .tq (t_eqlT rfl rfl (by omega)) rfl ?_ | refine .tq (t_eqlF rfl rfl (by omega)) rfl ?_ | refine .tq (t_eql rfl rfl) rfl ?_
         refine .as rfl rfl (.done (.condF rfl ?_))
         refine Wp.seq (Wp.draw [0,1,2,3,5,6,4,7,8,9] [] mixed (by kernel_rfl) (by kernel_rfl) ?_)
         intro w1 hx1 _
         replace hx := hx.ext hx1
         refine .mv rfl rfl (.tq (t_len Tryz.underlying9 rfl) rfl ?_)
         first | refine .tq (t_gtrT rfl rfl (by omega)) rfl ?_ | refine .tq (t_gtrF rfl rfl (by omega)) rfl ?_ | refine .tq (t_gtr rfl rfl) rfl ?_
         refine .mv rfl rfl ?_
         first | refine .gd (t_move rfl) rfl ?_ | refine .so rfl rfl ?_
         first | refine .gd (t_sliceS Tryz.underlying9 rfl rfl rfl (by omega)) rfl ?_ | refine .so rfl rfl ?_
         refine Rg.wdB ⟨_,rfl,rfl⟩ rfl (w_call Tryz.call97 rfl (twos_ok (hA.ext hx))) rfl (fun _ _ h => h.2) ?_
         rintro _ w2 ⟨⟨bk,rfl,hvk⟩,hx2⟩
         replace hx := hx.ext hx2
         refine Rg.wdB ⟨_,rfl,rfl⟩ rfl (w_call Tryz.call94 rfl (contains_ok (zs := twoList) (x := s.extract 0 2) two_len hvk)) rfl (fun _ _ h => h.2 ▸ Below.refl _ _) ?_
         rintro _ _ ⟨rfl,rfl⟩
         rw [show containsS twoList _ = _ from c6]
         first | refine .tq (t_pickT rfl rfl) rfl ?_ | refine .tq (t_pickF rfl rfl) rfl ?_
         refine .as rfl rfl (.done (.condF rfl (.sr (.mv rfl rfl (Rg.wd trivial (w_call Tryz.call98 rfl (idx_ok (s := oneText))) rfl ?_)))))
         rintro _ _ ⟨rfl,rfl⟩
         refine .tq (t_geq rfl rfl) rfl ?_
         rw [show decide (0 ≤ indexByte oneText.data.toList ((c0 : Int)).toNat.toUInt8) = _ from c7]
         refine .as rfl rfl (.done (.condF rfl (Wp.skip (.sr (.as rfl rfl (.as rfl rfl (.done (Wp.ret ?_))))))))
         exact ⟨[_,_],⟨rfl,rfl,trivial⟩,by rw [hR]; rfl,hx⟩
      ·have d6 : ¬ (bz s 1 ≠ 10 ∧ isTwo (s.extract 0 2) = true) := fun h => h.1 (bz_out (by omega))
       cases c7 : isOne c0 with
       | true =>
        have hR : tok s = (1,107) := by unfold tok; rw [hb,if_neg d1,if_neg d2,if_neg d3,if_neg d4,if_neg c5,if_neg d6,if_pos c7]
        refine Cl.enter Tryz.func46 rfl Tryz.ntmps46 rfl rfl (.sr (.as rfl rfl (.as rfl rfl (.done (.seq (.sr (.mv rfl rfl ?_)))))))
        refine .tq (t_index Tryz.underlying9 rfl rfl (by omega)) rfl ?_
        rw [show (0 : Int).toNat = 0 from rfl,hc0]
        refine .as rfl rfl (.done (Wp.block (.sr (.mv rfl rfl (Rg.wd trivial (w_call Tryz.call87 rfl (isSpace_ok hlt)) rfl ?_)))))
        rintro _ _ ⟨rfl,rfl⟩
        rw [c1]
        refine .as rfl rfl (.done (.condF rfl (.sr (.mv rfl rfl (Rg.wd trivial (w_call Tryz.call89 rfl prefix_ok) rfl ?_)))))
        rintro _ _ ⟨rfl,rfl⟩
        rw [c2]
        refine .as rfl rfl (.done (.condF rfl (.sr (.mv rfl rfl (Rg.wd trivial (w_call Tryz.call91 rfl isLetter_ok) rfl ?_)))))
        rintro _ _ ⟨rfl,rfl⟩
        rw [c3]
        refine .as rfl rfl (.done (.condF rfl (.sr (.mv rfl rfl (Rg.wd trivial (w_call Tryz.call93 rfl isDigit_ok) rfl ?_)))))
        rintro _ _ ⟨rfl,rfl⟩
        rw [c4]
        refine .as rfl rfl (.done (.condF rfl (.sr (.mv rfl rfl ?_))))
        first | refine .tq (t_eqlT rfl rfl (by omega)) rfl ?_ | refine .tq (t_eqlF rfl rfl (by omega)) rfl ?_ | refine .tq (t_eql rfl rfl) rfl ?_
        refine .as rfl rfl (.done (.condF rfl ?_))
        refine Wp.seq (Wp.draw [0,1,2,3,5,6,4,7,8,9] [] mixed (by kernel_rfl) (by kernel_rfl) ?_)
        intro w1 hx1 _
        replace hx := hx.ext hx1
        refine .mv rfl rfl (.tq (t_len Tryz.underlying9 rfl) rfl ?_)
        first | refine .tq (t_gtrT rfl rfl (by omega)) rfl ?_ | refine .tq (t_gtrF rfl rfl (by omega)) rfl ?_ | refine .tq (t_gtr rfl rfl) rfl ?_
        refine .mv rfl rfl ?_
        first | refine .gd (t_move rfl) rfl ?_ | refine .so rfl rfl ?_
        first | refine .gd (t_sliceS Tryz.underlying9 rfl rfl rfl (by omega)) rfl ?_ | refine .so rfl rfl ?_
        refine .so rfl rfl (.so rfl rfl ?_)
        first | refine .tq (t_pickT rfl rfl) rfl ?_ | refine .tq (t_pickF rfl rfl) rfl ?_
        refine .as rfl rfl (.done (.condF rfl (.sr (.mv rfl rfl (Rg.wd trivial (w_call Tryz.call98 rfl (idx_ok (s := oneText))) rfl ?_)))))
        rintro _ _ ⟨rfl,rfl⟩
        refine .tq (t_geq rfl rfl) rfl ?_
        rw [show decide (0 ≤ indexByte oneText.data.toList ((c0 : Int)).toNat.toUInt8) = _ from c7]
        refine .as rfl rfl (.done (.condT rfl (.sr (.as rfl rfl (.as rfl rfl (.done (Wp.ret ?_)))))))
        exact ⟨[_,_],⟨rfl,rfl,trivial⟩,by rw [hR]; rfl,hx⟩
       | false =>
        have hR : tok s = (1,108) := by unfold tok; rw [hb,if_neg d1,if_neg d2,if_neg d3,if_neg d4,if_neg c5,if_neg d6,if_neg (by rw [c7]; simp)]
        refine Cl.enter Tryz.func46 rfl Tryz.ntmps46 rfl rfl (.sr (.as rfl rfl (.as rfl rfl (.done (.seq (.sr (.mv rfl rfl ?_)))))))
        refine .tq (t_index Tryz.underlying9 rfl rfl (by omega)) rfl ?_
        rw [show (0 : Int).toNat = 0 from rfl,hc0]
        refine .as rfl rfl (.done (Wp.block (.sr (.mv rfl rfl (Rg.wd trivial (w_call Tryz.call87 rfl (isSpace_ok hlt)) rfl ?_)))))
        rintro _ _ ⟨rfl,rfl⟩
        rw [c1]
        refine .as rfl rfl (.done (.condF rfl (.sr (.mv rfl rfl (Rg.wd trivial (w_call Tryz.call89 rfl prefix_ok) rfl ?_)))))
        rintro _ _ ⟨rfl,rfl⟩
        rw [c2]
        refine .as rfl rfl (.done (.condF rfl (.sr (.mv rfl rfl (Rg.wd trivial (w_call Tryz.call91 rfl isLetter_ok) rfl ?_)))))
        rintro _ _ ⟨rfl,rfl⟩
        rw [c3]
        refine .as rfl rfl (.done (.condF rfl (.sr (.mv rfl rfl (Rg.wd trivial (w_call Tryz.call93 rfl isDigit_ok) rfl ?_)))))
        rintro _ _ ⟨rfl,rfl⟩
        rw [c4]
        refine .as rfl rfl (.done (.condF rfl (.sr (.mv rfl rfl ?_))))
        first | refine .tq (t_eqlT rfl rfl (by omega)) rfl ?_ | refine .tq (t_eqlF rfl rfl (by omega)) rfl ?_ | refine .tq (t_eql rfl rfl) rfl ?_
        refine .as rfl rfl (.done (.condF rfl ?_))
        refine Wp.seq (Wp.draw [0,1,2,3,5,6,4,7,8,9] [] mixed (by kernel_rfl) (by kernel_rfl) ?_)
        intro w1 hx1 _
        replace hx := hx.ext hx1
        refine .mv rfl rfl (.tq (t_len Tryz.underlying9 rfl) rfl ?_)
        first | refine .tq (t_gtrT rfl rfl (by omega)) rfl ?_ | refine .tq (t_gtrF rfl rfl (by omega)) rfl ?_ | refine .tq (t_gtr rfl rfl) rfl ?_
        refine .mv rfl rfl ?_
        first | refine .gd (t_move rfl) rfl ?_ | refine .so rfl rfl ?_
        first | refine .gd (t_sliceS Tryz.underlying9 rfl rfl rfl (by omega)) rfl ?_ | refine .so rfl rfl ?_
        refine .so rfl rfl (.so rfl rfl ?_)
        first | refine .tq (t_pickT rfl rfl) rfl ?_ | refine .tq (t_pickF rfl rfl) rfl ?_
        refine .as rfl rfl (.done (.condF rfl (.sr (.mv rfl rfl (Rg.wd trivial (w_call Tryz.call98 rfl (idx_ok (s := oneText))) rfl ?_)))))
        rintro _ _ ⟨rfl,rfl⟩
        refine .tq (t_geq rfl rfl) rfl ?_
        rw [show decide (0 ≤ indexByte oneText.data.toList ((c0 : Int)).toNat.toUInt8) = _ from c7]
        refine .as rfl rfl (.done (.condF rfl (Wp.skip (.sr (.as rfl rfl (.as rfl rfl (.done (Wp.ret ?_))))))))
        exact ⟨[_,_],⟨rfl,rfl,trivial⟩,by rw [hR]; rfl,hx⟩
end Go.Proofs.YtcelfjbajdffkaaGreatDoor.Lexi
namespace Go.Proofs.YtcelfjbajdffkaaGreatDoor.Lexi
set_option maxRecDepth 20000
open Go.Gx Go.RowKit Go.Lib
def tcs : List (Int × ByteArray) → List Value
 | [] => []
 | t :: l => .int .i64 t.1 :: .string t.2 :: tcs l
theorem tcs_length : ∀ l,(tcs l).length = l.length * 2
 | [] => rfl
 | t :: l => by simp [tcs,tcs_length l]; omega
theorem tcs_append : ∀ a b,tcs (a ++ b) = tcs a ++ tcs b
 | [],b => rfl
 | t :: a,b => by simp [tcs,tcs_append a b]
theorem tcs_drop : ∀ (l : List (Int × ByteArray)) (k : Nat),(tcs l).drop (k * 2) = tcs (l.drop k)
 | l,0 => rfl
 | [],k + 1 => by simp [tcs]
 | t :: l,k + 1 => by
  rw [show (k + 1) * 2 = k * 2 + 1 + 1 from by omega]
  simp only [tcs,List.drop_succ_cons]
  exact tcs_drop l k
theorem tcs_at (l : List (Int × ByteArray)) (k : Nat) (h : k < l.length) : ((tcs l).drop (k * 2)).take 2 = [.int .i64 l[k].1,.string l[k].2] := by
 rw [tcs_drop,List.drop_eq_getElem_cons h]; rfl
theorem tokenize_ok {w : World} {s : ByteArray} (hs : s.size ≤ 2000) (hA : Asc w) : Cl Tryz.prog 24 #[.string s] w (fun u w' => (∃ v,u = .tuple #[v,.int .i64 0] ∧ SlC w' v 2 (toks s).length (tcs (toks s))) ∧ Ext w w') := by
 obtain ⟨i,hi,hz,hsi,hby⟩ := inf55
 have hx := Ext.refl w
 refine Cl.enter Tryz.func24 rfl Tryz.ntmps24 rfl rfl (.sr (.as rfl rfl (.as rfl rfl (.done (.seq (.sr (.mv rfl rfl (.tq (t_len Tryz.underlying9 rfl) rfl ?_))))))))
 first | refine .tq (t_gtrT rfl rfl (by omega)) rfl ?_ | refine .tq (t_gtrF rfl rfl (by omega)) rfl ?_ | refine .tq (t_gtr rfl rfl) rfl ?_
 refine .done (.condF rfl (Wp.skip (.sr (.as rfl rfl (.done (.seq (Wp.block ?_)))))))
 refine Wp.loop (ι := ByteArray × List (Int × ByteArray) × Value) (fun j => [(0,.string j.1),(4,j.2.2)])
  (fun j w' => j.2.1 ++ toks j.1 = toks s ∧ j.1.size + j.2.1.length ≤ 2000 ∧ w'.ownsRow w.heap.size 55 2 j.2.2 j.2.1.length (tcs j.2.1) ∧ Ext w w')
  (fun j => j.1.size) (s,[],.slice none 0 0) (by repeat (first | exact .nil | refine .cons rfl ?_)) ⟨rfl,hs,own_nil _ _ _ _,hx⟩ ?_
 clear hx
 rintro ⟨r,l,v⟩ w3 ⟨he,hn,hown,hx⟩
 simp only at he hn hown ⊢
 by_cases hlt : 0 < r.size
 ·have hin := tok_in hlt
  refine .seq (.sr (.mv rfl rfl (.tq (t_len Tryz.underlying9 rfl) rfl ?_)))
  first | refine .tq (t_gtrT rfl rfl (by omega)) rfl ?_ | refine .tq (t_gtrF rfl rfl (by omega)) rfl ?_ | refine .tq (t_gtr rfl rfl) rfl ?_
  refine .done (.condT rfl (Wp.skip (Wp.block (.sr (.mv rfl rfl ?_)))))
  refine Rg.wd trivial (w_call Tryz.call46 rfl (first_ok (by omega) hlt (hA.ext hx))) rfl ?_
  rintro _ w1 ⟨rfl,hx1⟩
  replace hown := own_ext hown hx1
  replace hx := hx.ext hx1
  refine .mv rfl rfl (.tq (t_extract rfl rfl) rfl (.tq (t_extract rfl rfl) rfl (.as rfl rfl (.as rfl rfl (.done (.sr (.mv rfl rfl (.mv rfl rfl (.mv rfl rfl (.mv rfl rfl ?_))))))))))
  refine .tq (t_sliceS Tryz.underlying9 rfl rfl rfl (by omega)) rfl ?_
  refine .tq (t_build (bd55_0_1 _ _) rfl) rfl (Rg.wd trivial (w_buildSlice (bs49_1 _ _) rfl) rfl ?_)
  rintro _ wb ⟨bb,rfl,qb,hxb,hvb⟩
  replace hx := hx.ext hxb
  replace hown := own_ext hown hxb
  refine Rg.wd trivial (w_append w.heap.size Tryz.underlying49 hi hz hsi hby rfl (by decide) rfl rfl hown rfl (fun j u hu => by rw [addr_add]; exact hvb.cells j u hu) (by simp [Value.oneCell']) (by unfold maxLen; omega) (by omega) hx.le) rfl ?_
  rintro v2 wc ⟨hown2,hgr,p2,l2,c2,rfl⟩
  replace hx := own_ext3 hx hown hgr
  refine .as rfl rfl (.done (Wp.region (.mv rfl rfl (.mv rfl rfl ?_))))
  refine .tq (t_sliceS Tryz.underlying9 rfl rfl rfl (by omega)) rfl ?_
  refine .as rfl rfl (.done ?_)
  refine ⟨(r.extract (tok r).1 r.size,l ++ [((tok r).2,r.extract 0 (tok r).1)],.slice p2 l2 c2),by repeat (first | exact .nil | refine .cons rfl ?_),⟨?_,?_,?_,hx⟩,by simp only [size_tail]; omega⟩
  ·rw [← he,toks_cons hlt,List.append_assoc]; rfl
  ·simp only [List.length_append,List.length_cons,List.length_nil,size_tail]; omega
  ·rw [tcs_append,List.length_append]
   exact hown2
 ·have e0 : r.size = 0 := by omega
  rw [toks_nil e0,List.append_nil] at he
  refine .seq (.sr (.mv rfl rfl (.tq (t_len Tryz.underlying9 rfl) rfl ?_)))
  first | refine .tq (t_gtrT rfl rfl (by omega)) rfl ?_ | refine .tq (t_gtrF rfl rfl (by omega)) rfl ?_ | refine .tq (t_gtr rfl rfl) rfl ?_
  refine .done (.condF rfl (Wp.exit (.sr (.mv rfl rfl (.as rfl rfl (.as rfl rfl (.done (Wp.ret ?_))))))))
  exact ⟨[_,_],⟨rfl,rfl,trivial⟩,⟨v,rfl,by rw [← he]; exact own_slice hown⟩,hx⟩
end Go.Proofs.YtcelfjbajdffkaaGreatDoor.Lexi
