/- The walk of the law StatsWhole: its arms joined. -/
import Derived.Test.YtdklcflclpmcbaaWholeA
import Derived.Test.YtdklcflclpmcbaaWholeB
import Derived.Test.YtdklcflclpmcbaaWholeC
namespace Go.Proofs.Ytdklcflclpmcbaa
open Go.RowKit

theorem u64_of {a : Int} (h : (Lit.int .u64 a).wf = true) : 0 ≤ a ∧ a ≤ 18446744073709551615 := by
  simp [Lit.wf, IntKind.min, IntKind.max, IntKind.signed, IntKind.bits] at h; omega

theorem walk_StatsWhole (a b c d e f o : Int) (wa : (Lit.int .u64 a).wf = true) (wb : (Lit.int .u64 b).wf = true) (wc : (Lit.int .u64 c).wf = true) (wd : (Lit.int .u64 d).wf = true) (we : (Lit.int .u64 e).wf = true) (wf : (Lit.int .u64 f).wf = true) (_wo : (Lit.int .i64 o).wf = true) (w : World) :
    Calls Try.prog 3 #[.int .u64 a, .int .u64 b, .int .u64 c, .int .u64 d, .int .u64 e, .int .u64 f, .int .i64 o] w fun r w' => r = .returned (.bool true) ∧ Grown w w' := by
  obtain ⟨a0, a1⟩ := u64_of wa
  obtain ⟨b0, b1⟩ := u64_of wb
  obtain ⟨c0, c1⟩ := u64_of wc
  obtain ⟨d0, d1⟩ := u64_of wd
  obtain ⟨e0, e1⟩ := u64_of we
  obtain ⟨f0, f1⟩ := u64_of wf
  by_cases h1 : o = 1
  · subst h1; exact whole_one a b c d e f w a0 a1 b0 b1 c0 c1 d0 d1 e0 e1 f0 f1
  by_cases h2 : o = 2
  · subst h2; exact whole_two a b c d e f w a0 a1 b0 b1 c0 c1 d0 d1 e0 e1 f0 f1
  by_cases h3 : o = 3
  · subst h3; exact whole_three a b c d e f w a0 a1 b0 b1 c0 c1 d0 d1 e0 e1 f0 f1
  by_cases h4 : o = 4
  · subst h4; exact whole_four a b c d e f w a0 a1 b0 b1 c0 c1 d0 d1 e0 e1 f0 f1
  by_cases h5 : o = 5
  · subst h5; exact whole_five a b c d e f w a0 a1 b0 b1 c0 c1 d0 d1 e0 e1 f0 f1
  by_cases h6 : o = 6
  · subst h6; exact whole_six a b c d e f w a0 a1 b0 b1 c0 c1 d0 d1 e0 e1 f0 f1
  by_cases h7 : o = 7
  · subst h7
    have E0 : 0 ≤ e % 1099511627776 := Int.emod_nonneg _ (by omega)
    have D0 : 0 ≤ d % 1099511627776 := Int.emod_nonneg _ (by omega)
    by_cases he : 1 ≤ e % 1099511627776
    · exact whole_seven a b c d e f w a0 a1 b0 b1 c0 c1 d0 d1 e0 e1 f0 f1 he
    have he : e % 1099511627776 = 0 := by omega
    by_cases hd : 1 ≤ d % 1099511627776
    · exact whole_seven2 a b c d e f w a0 a1 b0 b1 c0 c1 d0 d1 e0 e1 f0 f1 he hd
    have hd : d % 1099511627776 = 0 := by omega
    exact whole_seven3 a b c d e f w a0 a1 b0 b1 c0 c1 d0 d1 e0 e1 f0 f1 he hd
  exact whole_def a b c d e f o w a0 a1 b0 b1 c0 c1 d0 d1 e0 e1 f0 f1 (by simpa using h1) (by simpa using h2) (by simpa using h3) (by simpa using h4) (by simpa using h5) (by simpa using h6) (by simpa using h7)

end Go.Proofs.Ytdklcflclpmcbaa
