/- AreaParses: the walk of the law, from the two closed forms. -/
import Derived.Test.YtekpbpcfeopilaaDoorPars
namespace Go.Proofs.YtekpbpcfeopilaaDoor.LawPa
open Go Go.RowKit Go.Proofs.YtekpbpcfeopilaaDoorCore Go.Proofs.YtekpbpcfeopilaaDoor.Pars Go.Proofs.YtekpbpcfeopilaaDoor.PPars Go.Proofs.YtekpbpcfeopilaaDoorW.PrintWords

theorem parse_all (s : ByteArray) (w : World) : Calls Tryd.prog 12 #[.string s] w fun e w' => e = .returned (.tuple #[.agg #[.int .i64 (parseS s).1, .int .i64 (parseS s).2.1, .string (parseS s).2.2.1], .bool (parseS s).2.2.2]) ∧ Below w.heap.size w w' :=
  area_Parse.calls 100 s _ _ _ _ w (parse_f s)
theorem ref_parse_all (s : ByteArray) (w : World) : Calls Tryd.prog 13 #[.string s] w fun e w' => e = .returned (.tuple #[.agg #[.int .i64 (parseS s).1, .int .i64 (parseS s).2.1, .string (parseS s).2.2.1], .bool (parseS s).2.2.2]) ∧ Below w.heap.size w w' :=
  precinctref07_Parse.calls 100 s _ _ _ _ w (ref_parse_f s)

def ParseIs (f : Nat) (s : ByteArray) (g i : Int) (d : ByteArray) (ok : Bool) : Prop := ∀ w : World, Calls Tryd.prog f #[.string s] w fun e w' => e = .returned (.tuple #[.agg #[.int .i64 g, .int .i64 i, .string d], .bool ok]) ∧ Below w.heap.size w w'

set_option maxHeartbeats 4000000 in
set_option maxRecDepth 100000 in
theorem core (s : ByteArray) (g i : Int) (d : ByteArray) (ok : Bool) (h1 : ParseIs 12 s g i d ok) (h2 : ParseIs 13 s g i d ok) (w : World) :
    Calls Tryd.prog 3 #[.string s] w fun e w' => e = .returned (.bool true) ∧ Below w.heap.size w w' := by
  go_enter Tryd.func3, Tryd.ntmps3
  go_wp2_with fail
  refine (h1 _).mono ?_
  rintro e w4 ⟨rfl, hb4⟩
  go_wp2_with fail
  refine (h2 _).mono ?_
  rintro e w5 ⟨rfl, hb5⟩
  have hc5 := alloc_cells hb5
  have hn5 := hb5.size
  simp only [World.size_alloc] at hn5
  go_wp2_with fail
  refine (Awk.wakes_any _).mono ?_
  rintro e w6 ⟨rfl, hb6⟩
  have hc6 := alloc_cells hb6
  have hk6 : ∀ j, w6.cell? ⟨w4.heap.size, j, none⟩ = w5.cell? ⟨w4.heap.size, j, none⟩ := by
    intro j
    rw [hb6.cell (p := ⟨w4.heap.size, j, none⟩) (by simp; omega)]
    exact World.cell?_alloc_lt _ _ _ (show w4.heap.size < w5.heap.size by omega)
  go_wp2_with fail
  refine bodyPost_ret (v := .bool true) (by simp [results, Tryd.results3, go_sem]) rfl ⟨rfl, ?_⟩
  exact hb4.trans (((alloc_below hb5).trans ((alloc_below hb6).mono (by omega))).mono hb4.size)

theorem law (s : ByteArray) (w : World) : Calls Tryd.prog 3 #[.string s] w fun e w' => e = .returned (.bool true) ∧ Below w.heap.size w w' :=
  core s _ _ _ _ (parse_all s) (ref_parse_all s) w

end Go.Proofs.YtekpbpcfeopilaaDoor.LawPa
