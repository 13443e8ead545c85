/- Rules: what closes goals. My own work. -/
set_option linter.unusedVariables false
set_option linter.unusedSectionVars false
set_option linter.unusedSimpArgs false
namespace Go.Sx
theorem bB {P : Prop} (h : P := by
  repeat (first | exact ResOk.nil | (apply ResOk.tmp; rfl) | (apply c0v; rfl; exact inferInstance; rfl; rfl))) : P := h
theorem a2l {P : Prop} (h : P := by
  first | (with_reducible assumption) | (with_reducible rfl) | (with_reducible exact tJ) | (with_reducible exact tK) | omega | decide | exact rfl) : P := h
theorem f1h {P : Prop} (h : P := by
  first | (with_reducible assumption) | (with_reducible rfl) | (with_reducible exact tJ) | (with_reducible exact tK) | omega | decide) : P := h
theorem f1e {P : Prop} (h : P := by
  first | (with_reducible assumption) | exact List.getElem?_eq_getElem (by first | (with_reducible assumption) | omega)) : P := h
theorem e7t {P : Prop} (h : P := by
  first | exact Bnd.none | (apply b2p; rfl) | (apply Bnd.some; rfl; omega)) : P := h
theorem mG {P : Prop} (h : P := by
  first | rfl | (with_reducible assumption) | (simp; done) | (simp; omega) | omega | (constructor <;> (simp) <;> omega)) : P := h
theorem nB {P : Prop} (h : P := by
  (repeat (first | exact Sub.nil | (refine Sub.cons (by first | rfl | (simp only [Nat.zero_add]; rfl)) ?_))); all_goals fail) : P := h
theorem e6z {P : Prop} (h : P := by
  (repeat (first | (with_reducible exact lM) | (apply iZ))); all_goals fail) : P := h
theorem bP {P : Prop} (h : P := by
  grind [a4j, o6, n5, bQ, qF, cH, b9d]) : P := h
theorem f1i {P : Prop} (h : P := by
  first | (with_reducible rfl) | exact congrArg Value.bool (by with_reducible assumption) | exact congrArg Value.bool (iJ a2l)) : P := h
theorem f1j {P : Prop} (h : P := by
  first | (with_reducible rfl) | exact congrArg Value.bool (by with_reducible assumption) | exact congrArg Value.bool (iR a2l)) : P := h
theorem b6a {P : Prop} (h : P := by
  first | exact GIn.none | (apply e9f; rfl; rfl; exact f1i) | (apply e9g; rfl; rfl; exact f1j)) : P := h
theorem d6r {P : Prop} (h : P := by
  first | (apply gout_u; rfl; rfl; (with_reducible rfl)) | (apply e5z; rfl; rfl; exact f1i) | (apply e6a; rfl; rfl; exact f1j)) : P := h
theorem iC {P : Prop} (h : P := by
  (repeat (first | exact Ent.refl | exact Ent.nil | apply Ent.pick | apply Ent.drop)); all_goals fail) : P := h
theorem lW {P : Prop} (h : P := by
  first | exact ⟨rfl, rfl⟩ | exact ⟨congrArg Value.bool (by decide), rfl⟩ | exact ⟨_, rfl, rfl⟩ | exact ⟨_, _, rfl, rfl⟩) : P := h
theorem b4k {P : Prop} (h : P := by
  first | (apply e5u; rfl) | (apply d2s; rfl) | (apply c1c; rfl) | (apply b6c; rfl; rfl; exact inferInstance) | (apply c4o; rfl; rfl; exact inferInstance; rfl) | (apply c1d; rfl; rfl; exact inferInstance; rfl) | (apply e0s; rfl; rfl; exact inferInstance; exact inferInstance; rfl) | (apply c2j; rfl; exact inferInstance; rfl; rfl) | (apply c7y; rfl; rfl) | (apply e8u; rfl; rfl) | (apply e8v; rfl; rfl) | (apply e8w; rfl; rfl) | (apply e8x; rfl; rfl) | (apply e8y; rfl; rfl) | (apply e8z; rfl; rfl) | (apply v_eqb_xt; rfl; rfl) | (apply v_eqb_xf; rfl; rfl) | (apply v_eqb_yt; rfl; rfl) | (apply v_eqb_yf; rfl; rfl) | (apply v_neb_xt; rfl; rfl) | (apply v_neb_xf; rfl; rfl) | (apply v_neb_yt; rfl; rfl) | (apply v_neb_yf; rfl; rfl) | (apply v_eqb; rfl; rfl) | (apply v_neb; rfl; rfl) | (apply e0q; rfl; (with_reducible rfl)) | (apply e0r; rfl; (with_reducible rfl)) | (apply d2t; rfl; (with_reducible assumption)) | (apply d2u; rfl; (with_reducible assumption)) | (apply c7x; rfl) | (apply b4l; rfl) | (apply b8j; rfl; (with_reducible rfl); rfl) | (apply b8k; rfl; (with_reducible rfl); rfl) | (apply b8j; rfl; exact congrArg Value.bool (iJ f1h); rfl) | (apply b8k; rfl; exact congrArg Value.bool (iR f1h); rfl) | (apply e5v; rfl; rfl; omega; omega) | (apply e2y; rfl; rfl) | (apply e5w; rfl; rfl; omega; omega) | (apply e2z; rfl; rfl) | (apply e5x; rfl; rfl; omega; omega) | (apply e3a; rfl; rfl) | (apply v_fieldN; rfl; rfl; exact inferInstance; rfl) | (apply v_field; rfl; rfl; rfl) | (apply b6e; rfl) | (apply v_len_string; rfl) | (apply v_len_array; rfl) | (apply a3x; rfl; rfl; exact inferInstance; exact inferInstance; exact inferInstance; rfl; rfl) | (apply a8t; rfl; rfl; exact inferInstance; exact inferInstance; exact inferInstance; exact inferInstance; rfl; rfl) | (apply c1e; rfl; rfl) | (apply yT; rfl; rfl; omega; omega) | (apply yU; rfl; rfl; omega; omega) | (apply xB; rfl; rfl; omega; omega; rfl; rfl) | (apply a8r; rfl) | (apply v_min; rfl; rfl) | (apply e9c; rfl; rfl) | (apply v_or; rfl; rfl) | (apply e9d; rfl; rfl; omega) | (apply v_shl; rfl; rfl; omega) | (apply e9a; rfl; rfl; omega) | (apply e9b; rfl; rfl; omega) | (apply v_neg; rfl) | (apply a3v; rfl) | (apply wS; rfl; exact e7t; exact e7t; omega; omega) | (apply c4o; rfl; rfl; exact inferInstance; (with_reducible assumption)) | (apply c3m; rfl; exact e7t; exact e7t; exact e7t; (first | exact fun h => h | (intro _; rfl) | (intro h; exact nomatch h)); omega; omega; omega) | (apply a1c; rfl; exact inferInstance; (refine b8m ?_ _ _ ?_; (exact fun _ => rfl); (first | (with_reducible assumption) | omega)); rfl; rfl) | (apply a1c; rfl; exact inferInstance; (apply b5h; (exact fun _ => rfl); exact f1e; rfl); rfl; rfl) | (apply b5i; rfl; rfl; exact inferInstance; (exact fun _ => rfl); exact f1e; exact inferInstance; rfl; rfl) | (apply a4x; rfl; exact inferInstance; (apply a4y; (exact fun _ => rfl); exact f1e; rfl); rfl; rfl) | (apply b9t; rfl; rfl) | (apply b9u; rfl; rfl) | (apply v_nes_none; rfl; rfl) | (apply v_nes_some; rfl; rfl) | (apply b9v; rfl; rfl) | (apply b9w; rfl; rfl) | (apply b9x; rfl; rfl) | (apply b9y; rfl; rfl) | (apply d0x; rfl; exact inferInstance) | (apply a2u; rfl; exact inferInstance; rfl; (first | (with_reducible assumption) | omega)) | (apply uQ; rfl; exact inferInstance; rfl; omega; omega) | (apply a2v; rfl; (with_reducible assumption); rfl; (first | (with_reducible assumption) | omega)) | (apply uS; rfl; (with_reducible assumption); rfl; omega; omega) | (apply c6i; rfl; rfl; exact inferInstance) | (apply b9r; rfl; rfl; exact inferInstance) | (apply v_len_mapT; rfl; exact inferInstance) | (apply d8g; rfl; exact inferInstance) | (apply d1j; rfl; rfl; rfl; rfl) | (apply d1k; rfl; rfl; rfl; rfl)) : P := h
theorem e2x {P : Prop} (h : P := by
  first | (apply a8e; rfl; rfl) | (apply b6d; rfl; rfl; exact inferInstance; exact inferInstance; rfl; rfl; rfl) | (apply d2v; rfl; rfl; exact inferInstance; exact inferInstance; exact inferInstance; rfl; rfl; rfl; rfl) | (apply uD; rfl; rfl; exact inferInstance; rfl; rfl; rfl; rfl) | (apply e9e; rfl; exact inferInstance; rfl) | (apply e0t; rfl) | (apply b1z; rfl; rfl; rfl; exact inferInstance; exact inferInstance; exact inferInstance; exact inferInstance; exact inferInstance; rfl; rfl; rfl) | (apply d0y; rfl; rfl; exact inferInstance; (first | exact inferInstance | exact r7 inferInstance rfl rfl); (first | omega | (simp only [List.length_append, List.length_cons, List.length_nil]; omega)); (first | omega | (simp only [List.length_append, List.length_cons, List.length_nil]; omega)); rfl; rfl; rfl) | (apply b9s; rfl) | (apply oD; rfl; rfl; rfl; exact inferInstance; rfl) | (apply c6j; rfl; rfl; exact inferInstance) | (apply b2c; rfl; omega; omega; omega; rfl; rfl) | (apply d6e; rfl; rfl; exact inferInstance; (first | exact inferInstance | exact r7 inferInstance rfl rfl); (first | omega | (simp only [List.length_cons, List.length_nil]; omega)); rfl; rfl) | (apply a1y; rfl; rfl; exact inferInstance; exact inferInstance; rfl; rfl; omega; omega) | (apply b1q; rfl; rfl; exact inferInstance; exact inferInstance; rfl; rfl; omega; omega)) : P := h
theorem zr {α β : Type} {a : α} {b : β} {P : α → β → Prop} (h : P a b) : ∀ r L, r = a ∧ L = b → P r L := by
  rintro _ _ ⟨rfl, rfl⟩
  exact h
theorem om {P : Prop} (h : P := by omega) : P := h
theorem xW {C Q : Prop} (c : C) (h : C → Q := by
  intro c
  (repeat (first | (with_reducible exact Ent.refl) | exact Ent.nil | (apply dQ; exact e6z) | (apply c) | apply Ent.drop)); all_goals exact mG) : Q := h c
end Go.Sx
