/- The plain law of CapsEncode: a capability's bytes are what the document says; one that may not be has none: for every capability. -/
import Derived.Test.YtjahdmjmdiepbaaM2
import Derived.Test.YtjahdmjmdiepbaaF3
namespace Go.Proofs.Ytjahdmjmdiepbaa.Pure
open Go Go.RowKit Go.Proofs.Ytjahdmjmdiepbaa.PA Go.Proofs.Ytjahdmjmdiepbaa.M Go.Proofs.YtjahdmjmdiepbaaW.PrintWords Go.Proofs.YtjahdmjmdiepbaaW.PrintLast Go.Proofs.YtjahdmjmdiepbaaW.PrintMore
theorem encode_j0 (k : Nat) {p o r c : Int} (h : CapOk p o r c) : sigillumlaw03_CapsEncode.j0 (k + 1) false p o r c = some true := by
  simp only [sigillumlaw03_CapsEncode.j0]
  rw [if_neg (by simp), may_f h]
  simp only [Option.bind_some]
  cases hm : mayB p o c with
  | true => simp
  | false =>
    rw [if_neg (by simp), Encode_no k hm]
    simp
theorem CapsEncode {p o r c : Int} (h : CapOk p o r c) : sigillumlaw03_CapsEncode.f 20 p o r c = some true := by
  unfold sigillumlaw03_CapsEncode.f
  have hc := cut_may h
  rw [awake_k 20 (by omega), make_f h, may_f h]
  simp only [Option.bind_some, if_true]
  rw [May_f, May_f, (mayB_iff hc.ok).2 hc, Encode_f 20 (by omega) hc, Bytes_f 20 (by omega) hc.ok]
  simp only [Option.bind_some, if_true]
  rw [if_neg (by simp)]
  have : ((strOfNums (capBytes (p % 281474976710656) (o % 16777216) r (c % 281474976710656))).toList != (strOfNums (capBytes (p % 281474976710656) (o % 16777216) r (c % 281474976710656))).toList) = false := by simp
  rw [this]
  exact encode_j0 19 h
end Go.Proofs.Ytjahdmjmdiepbaa.Pure
namespace Go.Proofs.Ytjahdmjmdiepbaa.Pure
open Go Go.RowKit Go.Proofs.Ytjahdmjmdiepbaa.PA Go.Proofs.Ytjahdmjmdiepbaa.M Go.Proofs.YtjahdmjmdiepbaaW.PrintWords Go.Proofs.YtjahdmjmdiepbaaW.PrintLast Go.Proofs.YtjahdmjmdiepbaaW.PrintMore
/-- The law's call. -/
theorem CapsEncodeWalk (p o r c : Int) (w : World) (h : CapOk p o r c) : Calls Try.prog 3 #[.agg #[.int .u64 p, .int .u32 o, .int .u8 r, .int .u64 c]] w fun e w' => e = .returned (.bool true) ∧ Below w.heap.size w w' := sigillumlaw03_CapsEncode.calls 20 p o r c true w (CapsEncode h)
end Go.Proofs.Ytjahdmjmdiepbaa.Pure
