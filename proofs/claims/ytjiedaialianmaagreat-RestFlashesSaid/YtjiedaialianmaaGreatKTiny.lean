import Derived.Lib.Hide
namespace Go.Proofs.YtjiedaialianmaaGreat
theorem Hp {p : Prop} (h : p) : Go.RowKit.Hid p := h
theorem Nm.{u} {α : Sort u} (x : α) : ∃ y, y = x := ⟨x, rfl⟩
end Go.Proofs.YtjiedaialianmaaGreat
