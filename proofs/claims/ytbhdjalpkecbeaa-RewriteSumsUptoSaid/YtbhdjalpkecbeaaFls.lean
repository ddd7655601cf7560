/- Flows: which are in form. -/
namespace Go.Proofs.Ytbhdjalpkecbeaa
/-- A flow. -/
structure Fl where
  proto : Int
  src : Int
  sp : Int
  dst : Int
  dp : Int
def GoodF (f : Fl) : Prop := (f.proto = 6 ∨ f.proto = 17) ∧ (0 ≤ f.sp ∧ f.sp ≤ 65535) ∧ (0 ≤ f.dp ∧ f.dp ≤ 65535)
end Go.Proofs.Ytbhdjalpkecbeaa
