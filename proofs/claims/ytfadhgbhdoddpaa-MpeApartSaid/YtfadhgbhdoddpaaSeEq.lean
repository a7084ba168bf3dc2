/- Equality of strings, and of sections. -/
import Derived.Test.YtfadhgbhdoddpaaSeA
import Derived.Laws.StructEq
namespace Go.Proofs.Ytfadhgbhdoddpaa.SeEq
open Go Go.RowKit Go.Proofs.Ytfadhgbhdoddpaa.Q Go.Proofs.Ytfadhgbhdoddpaa.Mem Go.Proofs.Ytfadhgbhdoddpaa.St Go.Proofs.Ytfadhgbhdoddpaa.SeA

theorem bytes_eq (a b : ByteArray) : (a.toList == b.toList) = decide (a = b) := by
  rw [ByteArray.toList_eq, ByteArray.toList_eq]
  obtain ⟨⟨x⟩⟩ := a
  obtain ⟨⟨y⟩⟩ := b
  by_cases h : x = y <;> simp [h]
theorem tl_iff (a b : ByteArray) : a.toList = b.toList ↔ a = b := by
  have := bytes_eq a b
  by_cases h : a = b
  · simp [h]
  · simp [h] at this
    simp [h, this]
theorem bytes_ne {a b : ByteArray} (h : a ≠ b) : (a.toList == b.toList) = false := by rw [bytes_eq]; simpa using h
theorem isEmpty_iff (s : ByteArray) : s.toList.isEmpty = decide (s.size = 0) := by
  rw [ByteArray.toList_eq]
  obtain ⟨⟨x⟩⟩ := s
  cases x <;> simp [ByteArray.size]
theorem sc_iff {a b : Sc} : a = b ↔ a.table = b.table ∧ a.priv = b.priv ∧ a.ext = b.ext ∧ a.version = b.version ∧ a.now = b.now ∧ a.number = b.number ∧ a.last = b.last ∧ a.body = b.body := ⟨fun h => by subst h; simp, fun ⟨h1, h2, h3, h4, h5, h6, h7, h8⟩ => by cases a; cases b; simp_all⟩
instance : DecidableEq Sc := fun _ _ => decidable_of_iff _ sc_iff.symm
set_option maxRecDepth 100000
theorem eqTS (a b : Sc) (w : World) : (Op.equalIn 10000 57 (.agg a.vals) (.agg b.vals)).run Try.prog w = .ok (decide (a = b)) w := by
  unfold Sc.vals
  have hS : Try.prog.underlying 57 = some (.struct (Try.prog.fieldsOf 57)) := by kernel_rfl
  have hp : Try.prog.stoodInHeld 57 = false := by kernel_rfl
  rw [show (10000 : Nat) = 9999 + 1 from rfl, run_equalIn_agg w 9999 57 _ _ hS hp]
  simp only [Program.fieldsOf, Try.underlying57]
  go_simp
  simp only [sc_iff]
  by_cases h1 : a.table = b.table <;> by_cases h2 : a.priv = b.priv <;> by_cases h3 : a.ext = b.ext <;> by_cases h4 : a.version = b.version <;> by_cases h5 : a.now = b.now <;> by_cases h6 : a.number = b.number <;> by_cases h7 : a.last = b.last <;> by_cases h8 : a.body = b.body <;> simp [h1, h2, h3, h4, h5, h6, h7, h8, tl_iff]
theorem eqTR (a b : Sc) (w : World) : (Op.equalIn 10000 67 (.agg a.vals) (.agg b.vals)).run Try.prog w = .ok (decide (a = b)) w := by
  unfold Sc.vals
  have hS : Try.prog.underlying 67 = some (.struct (Try.prog.fieldsOf 67)) := by kernel_rfl
  have hp : Try.prog.stoodInHeld 67 = false := by kernel_rfl
  rw [show (10000 : Nat) = 9999 + 1 from rfl, run_equalIn_agg w 9999 67 _ _ hS hp]
  simp only [Program.fieldsOf, Try.underlying67]
  go_simp
  simp only [sc_iff]
  by_cases h1 : a.table = b.table <;> by_cases h2 : a.priv = b.priv <;> by_cases h3 : a.ext = b.ext <;> by_cases h4 : a.version = b.version <;> by_cases h5 : a.now = b.now <;> by_cases h6 : a.number = b.number <;> by_cases h7 : a.last = b.last <;> by_cases h8 : a.body = b.body <;> simp [h1, h2, h3, h4, h5, h6, h7, h8, tl_iff]
end Go.Proofs.Ytfadhgbhdoddpaa.SeEq
