/- Proved: any number's bytes, and any number as one that is not signed, and the other way round, are as the reference says. No condition. -/
import Derived.Test.YthkpocgbinmeiaaP4
import Derived.Test.YthkpocgbinmeiaaUPut
namespace Go.Proofs.Ythkpocgbinmeiaa.Pure
open Go.RowKit Go.Proofs.Ythkpocgbinmeiaa.P Go.Proofs.YthkpocgbinmeiaaW.PrintWords Go.Proofs.YthkpocgbinmeiaaW.PrintLast Go.Proofs.YthkpocgbinmeiaaW.PrintMore Go.Proofs.Ythkpocgbinmeiaa.U

theorem VarintPuts : recantlaw03_VarintPuts.Pure := by
  intro a0 a1 h0 h1
  obtain ⟨n, rfl, hn⟩ := bounds64 h0
  have hb := bounds_i64 h1
  obtain ⟨K1, e1⟩ := alive_yes
  obtain ⟨K2, e2⟩ := refput_ev n hn
  obtain ⟨K3, e3⟩ := same_ev (putN n) (putN n) (by rw [putN_len]; have := septN_len10 n hn; omega)
  dsimp only at e1 e2 e3
  refine ⟨max K1 (max K2 K3), ?_⟩
  simp only [recantlaw03_VarintPuts.f]
  rw [e1 _ (by omega), Option.bind_some, if_pos rfl, put_f n hn, Option.bind_some, e2 _ (by omega), Option.bind_some, e3 _ (by omega), Option.bind_some, if_pos (by simp), zig_f a1 (by omega) (by omega), Option.bind_some,
    refzig_f a1 (by omega) (by omega), Option.bind_some, if_pos rfl, zag_f n hn, Option.bind_some, refzag_f n hn, Option.bind_some]
  simp

end Go.Proofs.Ythkpocgbinmeiaa.Pure
