/- Code that is cut off behind: all its ways end in frames of one form. Of no program. -/
import Derived.Test.YtgchepijbpcckaaDoorBorn
namespace Go
open Go.RowKit Go.Gm

/-- A piece of code, cut off behind: all its ways end in frames of one form. -/
theorem wp_cut1 {P : Program} {c : Code} {Q : Exit → Act → World → Prop} {a : Act} {w : World} {α : Type} {F : α → Act} (R : α → World → Prop)
    (h : c.wp P (fun e a' w' => e = .normal ∧ ∃ x, a' = F x ∧ R x w') a w) (hK : ∀ x w', R x w' → Q .normal (F x) w') : c.wp P Q a w :=
  wp_mono h fun e a' w' ⟨he, x, ha, hr⟩ => by subst he ha; exact hK x w' hr
theorem wp_cut2 {P : Program} {c : Code} {Q : Exit → Act → World → Prop} {a : Act} {w : World} {α β : Type} {F : α → β → Act} (R : α → β → World → Prop)
    (h : c.wp P (fun e a' w' => e = .normal ∧ ∃ x y, a' = F x y ∧ R x y w') a w) (hK : ∀ x y w', R x y w' → Q .normal (F x y) w') : c.wp P Q a w :=
  wp_mono h fun e a' w' ⟨he, x, y, ha, hr⟩ => by subst he ha; exact hK x y w' hr
theorem wp_cut3 {P : Program} {c : Code} {Q : Exit → Act → World → Prop} {a : Act} {w : World} {α β γ : Type} {F : α → β → γ → Act} (R : α → β → γ → World → Prop)
    (h : c.wp P (fun e a' w' => e = .normal ∧ ∃ x y z, a' = F x y z ∧ R x y z w') a w) (hK : ∀ x y z w', R x y z w' → Q .normal (F x y z) w') : c.wp P Q a w :=
  wp_mono h fun e a' w' ⟨he, x, y, z, ha, hr⟩ => by subst he ha; exact hK x y z w' hr
theorem wp_cut4 {P : Program} {c : Code} {Q : Exit → Act → World → Prop} {a : Act} {w : World} {α β γ δ : Type} {F : α → β → γ → δ → Act} (R : α → β → γ → δ → World → Prop)
    (h : c.wp P (fun e a' w' => e = .normal ∧ ∃ x y z v, a' = F x y z v ∧ R x y z v w') a w) (hK : ∀ x y z v w', R x y z v w' → Q .normal (F x y z v) w') : c.wp P Q a w :=
  wp_mono h fun e a' w' ⟨he, x, y, z, v, ha, hr⟩ => by subst he ha; exact hK x y z v w' hr
end Go
