/- Small words for statements that draw their order. -/
import Derived.Test.YtnljmjibjjjelaaSpanR
set_option linter.unusedSimpArgs false
set_option linter.unusedVariables false
namespace Go.Proofs.Ytnljmjibjjjelaa
open Go.RowKit Mo
theorem last2 {a0 a1 : Prop} {P : Prop} (h : a0 ∧ a1 ∧ Hid P) : P := h.2.2.out
theorem last4 {a0 a1 a2 a3 : Prop} {P : Prop} (h : a0 ∧ a1 ∧ a2 ∧ a3 ∧ Hid P) : P := h.2.2.2.2.out
theorem last6 {a0 a1 a2 a3 a4 a5 : Prop} {P : Prop} (h : a0 ∧ a1 ∧ a2 ∧ a3 ∧ a4 ∧ a5 ∧ Hid P) : P := h.2.2.2.2.2.2.out
theorem last8 {a0 a1 a2 a3 a4 a5 a6 a7 : Prop} {P : Prop} (h : a0 ∧ a1 ∧ a2 ∧ a3 ∧ a4 ∧ a5 ∧ a6 ∧ a7 ∧ Hid P) : P := h.2.2.2.2.2.2.2.2.out
theorem last10 {a0 a1 a2 a3 a4 a5 a6 a7 a8 a9 : Prop} {P : Prop} (h : a0 ∧ a1 ∧ a2 ∧ a3 ∧ a4 ∧ a5 ∧ a6 ∧ a7 ∧ a8 ∧ a9 ∧ Hid P) : P := h.2.2.2.2.2.2.2.2.2.2.out
end Go.Proofs.Ytnljmjibjjjelaa
