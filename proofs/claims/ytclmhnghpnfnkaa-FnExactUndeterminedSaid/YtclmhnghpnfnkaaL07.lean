/- A truth value as a number. -/
import Derived.Test.YtclmhnghpnfnkaaBase
namespace Go.Proofs.Ytclmhnghpnfnkaa
set_option maxRecDepth 100000
open Go.RowKit
set_option maxHeartbeats 400000 in
theorem l07Bit_any (b : Bool) (w : World) :
    Calls Try.prog 86 #[.bool b] w fun e w' => e = .returned (.int .i64 (if b then 1 else 0)) ∧ w = w' := by
  cases b with
  | true =>
    go_enter Try.func86, Try.ntmps86
    go_wp2_with fail
    go_ret
    exact ⟨rfl, rfl⟩
  | false =>
    go_enter Try.func86, Try.ntmps86
    go_wp2_with fail
    go_ret
    exact ⟨rfl, rfl⟩
theorem l07Bit_t (w : World) : Calls Try.prog 86 #[.bool true] w fun e w' => e = .returned (.int .i64 1) ∧ w = w' := l07Bit_any true w
theorem l07Bit_f (w : World) : Calls Try.prog 86 #[.bool false] w fun e w' => e = .returned (.int .i64 0) ∧ w = w' := l07Bit_any false w
end Go.Proofs.Ytclmhnghpnfnkaa
