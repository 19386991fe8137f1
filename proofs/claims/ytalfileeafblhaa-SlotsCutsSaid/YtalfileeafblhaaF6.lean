/- Two blocks compared. -/
import Derived.Test.YtalfileeafblhaaF4
import Derived.Laws.StructEq
namespace Go.Proofs.Ytalfileeafblhaa
set_option linter.unusedVariables false
set_option linter.unusedSimpArgs false
open Go.RowKit Go.Proofs Go.Proofs.Loam
set_option maxRecDepth 100000 in
theorem eql49 (x y : Bl) (w : World) : (binOp .eql 49 x.v y.v).run Try.prog w = .ok (.bool (decide (x = y))) w := by
  obtain ⟨a0, a1, a2, a3, a4, a5, a6⟩ := x
  obtain ⟨b0, b1, b2, b3, b4, b5, b6⟩ := y
  simp only [Bl.v, Bl.mk.injEq]
  have s49 : Try.prog.stoodInHeld 49 = false := by kernel_rfl
  have s47 : Try.prog.stoodInHeld 47 = false := by kernel_rfl
  by_cases h0 : a0 = b0
  · subst h0
    by_cases h1 : a1 = b1
    · subst h1
      by_cases h2 : a2 = b2
      · subst h2
        by_cases h3 : a3 = b3
        · subst h3
          by_cases h4 : a4 = b4
          · subst h4
            by_cases h5 : a5 = b5
            · subst h5
              by_cases h6 : a6 = b6
              · subst h6
                go_simp
              · have e : ((a6 : Int) == (b6 : Int)) = false := by simp; omega
                go_simp
                try simp [h6]
            · have e : ((a5 : Int) == (b5 : Int)) = false := by simp; omega
              go_simp
              try simp [h5]
          · have e : ((a4 : Int) == (b4 : Int)) = false := by simp; omega
            go_simp
            try simp [h4]
        · have e : ((a3 : Int) == (b3 : Int)) = false := by simp; omega
          go_simp
          try simp [h3]
      · have e : ((a2 : Int) == (b2 : Int)) = false := by simp; omega
        go_simp
        try simp [h2]
    · have e : ((a1 : Int) == (b1 : Int)) = false := by simp; omega
      go_simp
      try simp [h1]
  · have e : ((a0 : Int) == (b0 : Int)) = false := by simp; omega
    go_simp
    try simp [h0]
end Go.Proofs.Ytalfileeafblhaa
