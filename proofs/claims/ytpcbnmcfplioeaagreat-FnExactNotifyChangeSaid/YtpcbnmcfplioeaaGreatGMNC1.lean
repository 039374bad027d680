/-
  Functions of the program as typed functions, printed by gen.py, and that the program's functions do what they say. No conditions.
-/
import Derived.Test.YtpcbnmcfplioeaaGreatKb
import Derived.Test.YtpcbnmcfplioeaaGreatLit2NC1
namespace Go.Proofs.YtpcbnmcfplioeaaGreat
open Go.RowKit
set_option linter.unusedVariables false
set_option maxRecDepth 100000
set_option maxHeartbeats 1000000
def Ew  (rec : (Int × (List UInt8)) -> Option ((List UInt8))) (s : Int × (List UInt8)) : Option ((List UInt8)) := match s with
  | (y1,y2) => cond (decide (0 < y1)) (chk (List.length (bytesOf [IntKind.u8.wrap (IntKind.i64.wrap (48 + (Int.tmod y1 10)))]) + List.length y2 <= lim) (rec ((IntKind.i64.wrap (Int.tdiv y1 10)),((bytesOf [IntKind.u8.wrap (IntKind.i64.wrap (48 + (Int.tmod y1 10)))]) ++ y2)))) (some y2)
def EI (a0 : Int) : Option ((List UInt8)) := cond (decide (a0 <= 0)) (some [109,48]) (Ad (Ao Ew fz (a0,[])) fun z4 => chk (List.length [109] + List.length z4 <= lim) (some ([109] ++ z4)))
theorem JK {a0 : Int} {r : (List UInt8)} (h : EI a0 = some r) : Ai Tryz.prog 173 [nI a0] (.str r) := by
 unfold EI at h
 refine st bI rfl (rn 1 rfl (Ac fun K1 hK1 => rn 1 rfl ?_))
 rcases Ab h with ⟨g2,h⟩ | ⟨g2,h⟩
 ·exact qT rfl g2 (rn 1 rfl (Af ((by cases h; exact ⟨.inl rfl,rfl⟩))))
 ·refine qF rfl g2 (Ae (hK1 _ (rn 1 rfl (Ac fun K3 hK3 => ?_))))
  obtain ⟨o1,hl,hr1⟩ := Aa h
  have kXB1 : ∀ {z4 : List UInt8},z4 = o1 -> Jn K3 [(3,.str z4)] := by
   intro z4 h σ' hk
   subst h
   replace h := hr1
   try dsimp only at h
   refine hK3 _ (lh hk rfl (rs (sp 1 rfl (?_))))
   obtain ⟨g8,h⟩ := Aj h
   exact qB rfl g8 rfl (sp 1 rfl (evn (Af ((by cases h; exact ⟨.inl rfl,rfl⟩)))))
  refine AB (fun (s : Int × (List UInt8)) => match s with | (y1,y2) => [(0,nI y1),(3,.str y2)]) _ _ _ _ hl (okr rfl) (fun _ => rfl) ?_
  rintro m ⟨y1,y2⟩ N h hN
  unfold Ew at h
  dsimp only at h
  refine Ac fun K5 hK5 => rn 1 rfl ?_
  rcases Ab h with ⟨g6,h⟩ | ⟨g6,h⟩
  ·refine qT rfl g6 (Ae (hK5 _ (Az (rs (sp 4 rfl (qBs cu8 [IntKind.u8.wrap (IntKind.i64.wrap (48 + (Int.tmod y1 10)))] rfl rfl rfl qc (qCs (l := [IntKind.u8.wrap (IntKind.i64.wrap (48 + (Int.tmod y1 10)))]) rfl rfl rfl rfl (sp 1 rfl (?_)))))))))
   obtain ⟨g7,h⟩ := Aj h
   exact qB rfl g7 rfl (sp 1 rfl (evn (rg (sp 3 rfl (evn (hN _ _ h (okr rfl)))))))
  ·exact qF rfl g6 (Aq (kXB1 (Option.some.inj h) _ (okr rfl)))
end Go.Proofs.YtpcbnmcfplioeaaGreat
