/- P3.2, P3.4 at the program: keys.Rank and keys.Rising answer as the document's do, for all lists of keys and every key; what was handed over is as it was. -/
import Derived.Test.YtmblnpgeaihebaaGx15
import Derived.Test.YtmblnpgeaihebaaPlain2
namespace Go.Proofs.Ytmblnpgeaihebaa.Pure
open Go.RowKit Go.Proofs.Ytmblnpgeaihebaa.G Go.Proofs.YtmblnpgeaihebaaW.PrintWords Go.Proofs.YtmblnpgeaihebaaW.PrintLast

theorem KeysRanks : inclinelaw03_KeysRanks.Pure := by
  intro l q _ hl _ _
  have hl1 : l.length < 17592186044416 - 1 := by omega
  refine ⟨l.length + 11, ?_⟩
  have ht : ((l ++ [77]).take l.length) = l := by simp
  have hr : rd (l ++ [77]) (l.length : Int) = 77 := by simp [rd]
  unfold inclinelaw03_KeysRanks.f
  rw [shown_is _ (by omega)]
  simp only [Option.bind_some, List.nil_append, List.length_nil, Nat.zero_add, Int.toNat_natCast, if_true]
  rw [if_pos (by omega), if_pos (by omega), if_pos (by omega), if_pos (by simp; omega), ht, rank_is l q (by omega) _ (by omega), refRank_f l q (by omega) _ (by omega), refRising_f l (by omega) _ (by omega), same_f l (by omega) _ (by omega)]
  simp only [Option.bind_some, keys_Rising.f, if_true]
  rw [if_pos (by simp; omega), if_pos hr]
  simp
end Go.Proofs.Ytmblnpgeaihebaa.Pure
