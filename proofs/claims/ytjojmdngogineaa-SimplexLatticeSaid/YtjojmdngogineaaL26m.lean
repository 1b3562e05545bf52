/-
  The law on what simplices share, where awake holds.
-/
import Derived.Test.YtjojmdngogineaaL26k
import Derived.Test.YtjojmdngogineaaL26l
namespace Go.Proofs.Ytjojmdngogineaa
open Go.RowKit
theorem lattice_of (hA : Fn Try.prog 16 [] (dB true)) (a b c : List Vx) : Fn Try.prog 9 [dS Verts a, dS Verts b, dS Verts c] (dB true) := by
  cases hg : ([a, b, c].all fun s => decide (chkV s = 0)) with
  | false => exact lattice_bad hA a b c hg
  | true =>
    have hg' := hg
    simp only [List.all_cons, List.all_nil, Bool.and_true, Bool.and_eq_true, decide_eq_true_eq] at hg'
    obtain ⟨ha, hb, hc⟩ := hg'
    obtain ⟨ha0, ha1, ha2, ha3⟩ := chkV_zero.1 ha
    obtain ⟨hb0, hb1, hb2, hb3⟩ := chkV_zero.1 hb
    by_cases h1 : (allV b c).length ≤ 8
    · by_cases h2 : (allV a b).length ≤ 8
      · have hbc := all_good hb hc h1
        have j1 : (joinV a b).2 = 0 ∧ (sharedV a b true).length = 0 ∨ (joinV a b).2 = 7 ∧ 0 < (sharedV a b true).length := by
          by_cases h0 : (sharedV a b true).length = 0
          · rw [join_none ha hb h2 h0]; exact .inl ⟨rfl, h0⟩
          · rw [join_some ha hb (by omega)]; exact .inr ⟨rfl, by omega⟩
        have j2 : (joinV a b).2 = 0 → (joinV a b).1 = allV a b := by
          intro he
          by_cases h0 : (sharedV a b true).length = 0
          · rw [join_none ha hb h2 h0]
          · rw [join_some ha hb (by omega)] at he; cases he
        have hr := left_right (b := b) (c := c) ha3
        unfold rightV at hr
        have hs : (allV (sharedV a b true) (sharedV a c true)).Sublist a := allV_sub ha3 (fun x hx => shared_sub.subset hx) (fun x hx => shared_sub.subset hx) (asc_shared ha3)
        by_cases p1 : 0 < (sharedV a b true).length
        · by_cases p2 : 0 < (sharedV a c true).length
          · rw [if_pos p1, if_pos p2] at hr
            exact lattice_path_tt hA a b c (allV b c) (allV a b) (sharedV a b true) (sharedV a c true) (sharedV a (allV b c) true) (sharedV a b false) (sharedV b a false) (joinV a b).1 (joinV a b).2 hg (union_good hb hc h1) (union_good ha hb h2) (len_good ha) (len_good hb) (meet_good ha hbc) (meet_good ha hb) (meet_good ha hc) (decide_eq_true p1) (decide_eq_true p2) (by rw [union_good (sub_good ha shared_sub (ne_nil p1)) (sub_good ha shared_sub (ne_nil p2)) (Nat.le_trans hs.length_le ha1), hr]) (without_good ha hb) (without_good hb ha) (parts_len hb3) (fun x hx => cnt_parts hx) h2 rfl j1 j2
          · rw [if_pos p1, if_neg p2] at hr
            exact lattice_path_tf hA a b c (allV b c) (allV a b) (sharedV a b true) (sharedV a c true) (sharedV a (allV b c) true) (sharedV a b false) (sharedV b a false) (joinV a b).1 (joinV a b).2 hg (union_good hb hc h1) (union_good ha hb h2) (len_good ha) (len_good hb) (meet_good ha hbc) (meet_good ha hb) (meet_good ha hc) (decide_eq_true p1) (decide_eq_false p2) hr (without_good ha hb) (without_good hb ha) (parts_len hb3) (fun x hx => cnt_parts hx) h2 rfl j1 j2
        · by_cases p2 : 0 < (sharedV a c true).length
          · rw [if_neg p1, if_pos p2] at hr
            exact lattice_path_ft hA a b c (allV b c) (allV a b) (sharedV a b true) (sharedV a c true) (sharedV a (allV b c) true) (sharedV a b false) (sharedV b a false) (joinV a b).1 (joinV a b).2 hg (union_good hb hc h1) (union_good ha hb h2) (len_good ha) (len_good hb) (meet_good ha hbc) (meet_good ha hb) (meet_good ha hc) (decide_eq_false p1) (decide_eq_true p2) hr (without_good ha hb) (without_good hb ha) (parts_len hb3) (fun x hx => cnt_parts hx) h2 rfl j1 j2
          · rw [if_neg p1, if_neg p2] at hr
            exact lattice_path_ff hA a b c (allV b c) (allV a b) (sharedV a b true) (sharedV a c true) (sharedV a (allV b c) true) (sharedV a b false) (sharedV b a false) (joinV a b).1 (joinV a b).2 hg (union_good hb hc h1) (union_good ha hb h2) (len_good ha) (len_good hb) (meet_good ha hbc) (meet_good ha hb) (meet_good ha hc) (decide_eq_false p1) (decide_eq_false p2) hr (without_good ha hb) (without_good hb ha) (parts_len hb3) (fun x hx => cnt_parts hx) h2 rfl j1 j2
      · exact lattice_many hA a b c hg _ _ _ _ (union_good hb hc h1) (union_many ha hb (by omega)) (.inr ⟨rfl, rfl⟩)
    · by_cases h2 : (allV a b).length ≤ 8
      · exact lattice_many hA a b c hg _ _ _ _ (union_many hb hc (by omega)) (union_good ha hb h2) (.inl ⟨rfl, .inl rfl⟩)
      · exact lattice_many hA a b c hg _ _ _ _ (union_many hb hc (by omega)) (union_many ha hb (by omega)) (.inl ⟨rfl, .inr rfl⟩)

end Go.Proofs.Ytjojmdngogineaa
