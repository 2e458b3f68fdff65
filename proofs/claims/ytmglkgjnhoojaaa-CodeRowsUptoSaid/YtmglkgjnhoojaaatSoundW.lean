/- CodeSound (5) walked: for each row of deeds it answers true. -/
import Derived.Test.YtmglkgjnhoojaaatkA
import Derived.Test.YtmglkgjnhoojaaatkG
import Derived.Test.YtmglkgjnhoojaaatkF
namespace Go.Proofs.Ytmglkgjnhoojaaa.PCodeRows
open Go.RowKit Go.Proofs.YtmglkgjnhoojaaaW.PrintWords Go.Proofs.YtmglkgjnhoojaaaW.PrintLast Go.Proofs.YtmglkgjnhoojaaaW.PrintMore
set_option linter.unusedVariables false
set_option linter.unusedSimpArgs false
theorem build0 (L : Option Addr) (cl : Nat) (l : List S48) (w : World) (hL : Kd.C k48 w L l.length l) (hn : ∀ x ∈ l, 0 ≤ x.f1.f1 ∧ x.f1.f1 < 4294967296) (hN2 : l.length ≤ 1099511627776) {D : Dr} {n : Nat} {c : Int} (hr : buildP zdr l 0 = (D, n, c)) :
    Calls Try.prog 20 #[drV none none none none none 0 0 0 0 0 0 0 0 0 0, .slice L l.length cl] w (LPost w (D, n, c)) :=
  hr ▸ build_calls zdr none none none none none 0 0 0 0 0 (fun _ => 0) L cl 0 l w (c5_nil w 0) hL hn (bnd_zdr 0) (by omega)
end Go.Proofs.Ytmglkgjnhoojaaa.PCodeRows
