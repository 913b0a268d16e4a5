/- The frame of HoursTexts: what its row lays besides the tables: two errors of the library; a world for the witness. -/
import Derived.Test.YtpjnlcdmbkbfcaaDoorLTexts
import Derived.Stop.LaidErr
import Derived.ChangeMaps5
namespace Go.Proofs.YtpjnlcdmbkbfcaaDoor
open Go.ChangeShapes Go.WideShapes Go.ChangeAt Go.RowKit

theorem synG : Tryd.prog.globalNamed "strconv.ErrSyntax" = some 1 := by kernel_rfl
theorem rngG : Tryd.prog.globalNamed "strconv.ErrRange" = some 2 := by kernel_rfl
theorem synT : (Tryd.prog.globals[1]?).map (·.type) = some 113 := by kernel_rfl
theorem rngT : (Tryd.prog.globals[2]?).map (·.type) = some 113 := by kernel_rfl
theorem starE : "*" ++ "errors.errorString" = "*errors.errorString" := by decide
theorem rowE (u : TypeId) (h : Tryd.prog.typeName? 3 u = some "*errors.errorString") : u = 156 :=
  typeName_ptr_named (nm := "errors.errorString") (by rw [starE]; kernel_rfl) (by kernel_rfl) (by decide) u (by rw [starE]; exact h)
theorem cellsE : Tryd.prog.cellsOf 158 = 1 := by kernel_rfl
theorem cellsS : Tryd.prog.cellsOf 9 = 1 := by kernel_rfl
theorem varC_of {W : World} (hL : laidMetH Tryd.prog Rows.hoursTextsRow.laid W) (hS : W.ShapedOpen Tryd.prog) : VarC W := by
  have h5 : laidMet Tryd.prog Rows.hoursTextsRow.laid W := hL
  have h2 := h5.tail.tail.tail
  obtain ⟨a, s, hv, _⟩ := laid_sentinel h2 rngG rngT Tryd.underlying113 rowE Tryd.underlying156 Tryd.underlying158 rfl rfl Tryd.underlying9 cellsE cellsS
  obtain ⟨a', s', hv', _⟩ := laid_sentinel h2.tail synG synT Tryd.underlying113 rowE Tryd.underlying156 Tryd.underlying158 rfl rfl Tryd.underlying9 cellsE cellsS
  obtain ⟨m, hm⟩ := Go.Proofs.Tryd.laysM145.s1_3 W hS
  have c1 : W.cell? ⟨1, 0, none⟩ = some (.iface 156 (.pointer (some a'))) := by
    have := World.var?_cell synG hv' 0
    simpa using this
  have c2 : W.cell? ⟨2, 0, none⟩ = some (.iface 156 (.pointer (some a))) := by
    have := World.var?_cell rngG hv 0
    simpa using this
  exact ⟨⟨m, hm⟩, ⟨_, c1, .inr ⟨_, _, rfl⟩⟩, _, c2, .inr ⟨_, _, rfl⟩⟩
noncomputable def lowT : Nat := (World.holding Tryd.prog default ⟨#[], #[], []⟩).heap.size
/-- A world for the witness: the tables, and the two errors, each of a block of its own. -/
noncomputable def laidWorldT (os : Os) : World :=
  { laidWorld os with heap := (((laidWorld os).heap.modify 2 (withCells #[.iface 156 (.pointer (some ⟨lowT, 0, none⟩))])).modify 1 (withCells #[.iface 156 (.pointer (some ⟨lowT + 1, 0, none⟩))])) ++
    #[.cells #[.string ⟨#[118, 97, 108, 117, 101, 32, 111, 117, 116, 32, 111, 102, 32, 114, 97, 110, 103, 101]⟩] 158, .cells #[.string ⟨#[105, 110, 118, 97, 108, 105, 100, 32, 115, 121, 110, 116, 97, 120]⟩] 158] }
end Go.Proofs.YtpjnlcdmbkbfcaaDoor
