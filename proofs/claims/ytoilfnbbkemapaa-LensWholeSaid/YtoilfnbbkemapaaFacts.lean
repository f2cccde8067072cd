/- Facts on the program's tables, by the kernel. -/
import Derived.Test.YtoilfnbbkemapaaRows
import Derived.Test.YtoilfnbbkemapaaK
namespace Go.Proofs.Ytoilfnbbkemapaa
open Go.SX
theorem Try.mixed : Try.prog.follows .mixedOrders = true := by kernel_rfl
theorem Try.ag1 : isAggB Try.prog 1 = some false := by kernel_rfl
theorem Try.sz1 : (Try.prog.info? 1).map (·.size) = some 1 := by kernel_rfl
theorem Try.is1 : (Try.prog.info? 1).isSome = true := by kernel_rfl
theorem Try.us1 : (Try.prog.underlying 1).isSome = true := by kernel_rfl
theorem Try.ag2 : isAggB Try.prog 2 = some false := by kernel_rfl
theorem Try.sz2 : (Try.prog.info? 2).map (·.size) = some 1 := by kernel_rfl
theorem Try.is2 : (Try.prog.info? 2).isSome = true := by kernel_rfl
theorem Try.us2 : (Try.prog.underlying 2).isSome = true := by kernel_rfl
theorem Try.ag3 : isAggB Try.prog 3 = some false := by kernel_rfl
theorem Try.sz3 : (Try.prog.info? 3).map (·.size) = some 1 := by kernel_rfl
theorem Try.is3 : (Try.prog.info? 3).isSome = true := by kernel_rfl
theorem Try.us3 : (Try.prog.underlying 3).isSome = true := by kernel_rfl
theorem Try.ag4 : isAggB Try.prog 4 = some false := by kernel_rfl
theorem Try.sz4 : (Try.prog.info? 4).map (·.size) = some 1 := by kernel_rfl
theorem Try.is4 : (Try.prog.info? 4).isSome = true := by kernel_rfl
theorem Try.us4 : (Try.prog.underlying 4).isSome = true := by kernel_rfl
theorem Try.ag5 : isAggB Try.prog 5 = some false := by kernel_rfl
theorem Try.sz5 : (Try.prog.info? 5).map (·.size) = some 1 := by kernel_rfl
theorem Try.is5 : (Try.prog.info? 5).isSome = true := by kernel_rfl
theorem Try.us5 : (Try.prog.underlying 5).isSome = true := by kernel_rfl
theorem Try.ag6 : isAggB Try.prog 6 = some false := by kernel_rfl
theorem Try.sz6 : (Try.prog.info? 6).map (·.size) = some 1 := by kernel_rfl
theorem Try.is6 : (Try.prog.info? 6).isSome = true := by kernel_rfl
theorem Try.us6 : (Try.prog.underlying 6).isSome = true := by kernel_rfl
theorem Try.ag7 : isAggB Try.prog 7 = some true := by kernel_rfl
theorem Try.sz7 : (Try.prog.info? 7).map (·.size) = some 4 := by kernel_rfl
theorem Try.is7 : (Try.prog.info? 7).isSome = true := by kernel_rfl
theorem Try.us7 : (Try.prog.underlying 7).isSome = true := by kernel_rfl
theorem Try.off7_0 : fOff Try.prog 7 0 = some 0 := by kernel_rfl
theorem Try.off7_1 : fOff Try.prog 7 1 = some 1 := by kernel_rfl
theorem Try.off7_2 : fOff Try.prog 7 2 = some 2 := by kernel_rfl
theorem Try.off7_3 : fOff Try.prog 7 3 = some 3 := by kernel_rfl
theorem Try.ag8 : isAggB Try.prog 8 = some true := by kernel_rfl
theorem Try.sz8 : (Try.prog.info? 8).map (·.size) = some 4 := by kernel_rfl
theorem Try.is8 : (Try.prog.info? 8).isSome = true := by kernel_rfl
theorem Try.us8 : (Try.prog.underlying 8).isSome = true := by kernel_rfl
theorem Try.off8_0 : fOff Try.prog 8 0 = some 0 := by kernel_rfl
theorem Try.off8_1 : fOff Try.prog 8 1 = some 1 := by kernel_rfl
theorem Try.off8_2 : fOff Try.prog 8 2 = some 2 := by kernel_rfl
theorem Try.off8_3 : fOff Try.prog 8 3 = some 3 := by kernel_rfl
theorem Try.ag9 : isAggB Try.prog 9 = some false := by kernel_rfl
theorem Try.sz9 : (Try.prog.info? 9).map (·.size) = some 1 := by kernel_rfl
theorem Try.is9 : (Try.prog.info? 9).isSome = true := by kernel_rfl
theorem Try.us9 : (Try.prog.underlying 9).isSome = true := by kernel_rfl
theorem Try.ag10 : isAggB Try.prog 10 = some false := by kernel_rfl
theorem Try.sz10 : (Try.prog.info? 10).map (·.size) = some 1 := by kernel_rfl
theorem Try.is10 : (Try.prog.info? 10).isSome = true := by kernel_rfl
theorem Try.us10 : (Try.prog.underlying 10).isSome = true := by kernel_rfl
theorem Try.ag11 : isAggB Try.prog 11 = some false := by kernel_rfl
theorem Try.sz11 : (Try.prog.info? 11).map (·.size) = some 1 := by kernel_rfl
theorem Try.is11 : (Try.prog.info? 11).isSome = true := by kernel_rfl
theorem Try.us11 : (Try.prog.underlying 11).isSome = true := by kernel_rfl
theorem Try.ag12 : isAggB Try.prog 12 = some false := by kernel_rfl
theorem Try.sz12 : (Try.prog.info? 12).map (·.size) = some 1 := by kernel_rfl
theorem Try.is12 : (Try.prog.info? 12).isSome = true := by kernel_rfl
theorem Try.us12 : (Try.prog.underlying 12).isSome = true := by kernel_rfl
theorem Try.ag13 : isAggB Try.prog 13 = some true := by kernel_rfl
theorem Try.sz13 : (Try.prog.info? 13).map (·.size) = some 2 := by kernel_rfl
theorem Try.is13 : (Try.prog.info? 13).isSome = true := by kernel_rfl
theorem Try.us13 : (Try.prog.underlying 13).isSome = true := by kernel_rfl
theorem Try.off13_0 : fOff Try.prog 13 0 = some 0 := by kernel_rfl
theorem Try.off13_1 : fOff Try.prog 13 1 = some 1 := by kernel_rfl
theorem Try.ag14 : isAggB Try.prog 14 = some true := by kernel_rfl
theorem Try.sz14 : (Try.prog.info? 14).map (·.size) = some 2 := by kernel_rfl
theorem Try.is14 : (Try.prog.info? 14).isSome = true := by kernel_rfl
theorem Try.us14 : (Try.prog.underlying 14).isSome = true := by kernel_rfl
theorem Try.off14_0 : fOff Try.prog 14 0 = some 0 := by kernel_rfl
theorem Try.off14_1 : fOff Try.prog 14 1 = some 1 := by kernel_rfl
theorem Try.ag15 : isAggB Try.prog 15 = some false := by kernel_rfl
theorem Try.sz15 : (Try.prog.info? 15).map (·.size) = some 1 := by kernel_rfl
theorem Try.is15 : (Try.prog.info? 15).isSome = true := by kernel_rfl
theorem Try.us15 : (Try.prog.underlying 15).isSome = true := by kernel_rfl
theorem Try.ag16 : isAggB Try.prog 16 = some false := by kernel_rfl
theorem Try.sz16 : (Try.prog.info? 16).map (·.size) = some 1 := by kernel_rfl
theorem Try.is16 : (Try.prog.info? 16).isSome = true := by kernel_rfl
theorem Try.us16 : (Try.prog.underlying 16).isSome = true := by kernel_rfl
theorem Try.ag17 : isAggB Try.prog 17 = some false := by kernel_rfl
theorem Try.sz17 : (Try.prog.info? 17).map (·.size) = some 1 := by kernel_rfl
theorem Try.is17 : (Try.prog.info? 17).isSome = true := by kernel_rfl
theorem Try.us17 : (Try.prog.underlying 17).isSome = true := by kernel_rfl
theorem Try.ag18 : isAggB Try.prog 18 = some true := by kernel_rfl
theorem Try.sz18 : (Try.prog.info? 18).map (·.size) = some 1 := by kernel_rfl
theorem Try.is18 : (Try.prog.info? 18).isSome = true := by kernel_rfl
theorem Try.us18 : (Try.prog.underlying 18).isSome = true := by kernel_rfl
theorem Try.off18_0 : fOff Try.prog 18 0 = some 0 := by kernel_rfl
theorem Try.ag19 : isAggB Try.prog 19 = some true := by kernel_rfl
theorem Try.sz19 : (Try.prog.info? 19).map (·.size) = some 1 := by kernel_rfl
theorem Try.is19 : (Try.prog.info? 19).isSome = true := by kernel_rfl
theorem Try.us19 : (Try.prog.underlying 19).isSome = true := by kernel_rfl
theorem Try.off19_0 : fOff Try.prog 19 0 = some 0 := by kernel_rfl
theorem Try.ag20 : isAggB Try.prog 20 = some false := by kernel_rfl
theorem Try.sz20 : (Try.prog.info? 20).map (·.size) = some 1 := by kernel_rfl
theorem Try.is20 : (Try.prog.info? 20).isSome = true := by kernel_rfl
theorem Try.us20 : (Try.prog.underlying 20).isSome = true := by kernel_rfl
theorem Try.ag21 : isAggB Try.prog 21 = some false := by kernel_rfl
theorem Try.sz21 : (Try.prog.info? 21).map (·.size) = some 1 := by kernel_rfl
theorem Try.is21 : (Try.prog.info? 21).isSome = true := by kernel_rfl
theorem Try.us21 : (Try.prog.underlying 21).isSome = true := by kernel_rfl
theorem Try.ag22 : isAggB Try.prog 22 = some false := by kernel_rfl
theorem Try.sz22 : (Try.prog.info? 22).map (·.size) = some 1 := by kernel_rfl
theorem Try.is22 : (Try.prog.info? 22).isSome = true := by kernel_rfl
theorem Try.us22 : (Try.prog.underlying 22).isSome = true := by kernel_rfl
theorem Try.zi3_22 : (Try.prog.info? 3).map (fun i => (i.zero, i.size, i.bytes)) = some (some (.int .i64 0), 1, 8) := by kernel_rfl
theorem Try.ag23 : isAggB Try.prog 23 = some false := by kernel_rfl
theorem Try.sz23 : (Try.prog.info? 23).map (·.size) = some 1 := by kernel_rfl
theorem Try.is23 : (Try.prog.info? 23).isSome = true := by kernel_rfl
theorem Try.us23 : (Try.prog.underlying 23).isSome = true := by kernel_rfl
theorem Try.ag24 : isAggB Try.prog 24 = some false := by kernel_rfl
theorem Try.sz24 : (Try.prog.info? 24).map (·.size) = some 1 := by kernel_rfl
theorem Try.is24 : (Try.prog.info? 24).isSome = true := by kernel_rfl
theorem Try.us24 : (Try.prog.underlying 24).isSome = true := by kernel_rfl
theorem Try.ag26 : isAggB Try.prog 26 = some false := by kernel_rfl
theorem Try.sz26 : (Try.prog.info? 26).map (·.size) = some 1 := by kernel_rfl
theorem Try.is26 : (Try.prog.info? 26).isSome = true := by kernel_rfl
theorem Try.us26 : (Try.prog.underlying 26).isSome = true := by kernel_rfl
theorem Try.ag27 : isAggB Try.prog 27 = some false := by kernel_rfl
theorem Try.sz27 : (Try.prog.info? 27).map (·.size) = some 1 := by kernel_rfl
theorem Try.is27 : (Try.prog.info? 27).isSome = true := by kernel_rfl
theorem Try.us27 : (Try.prog.underlying 27).isSome = true := by kernel_rfl
theorem Try.ag28 : isAggB Try.prog 28 = some false := by kernel_rfl
theorem Try.sz28 : (Try.prog.info? 28).map (·.size) = some 1 := by kernel_rfl
theorem Try.is28 : (Try.prog.info? 28).isSome = true := by kernel_rfl
theorem Try.us28 : (Try.prog.underlying 28).isSome = true := by kernel_rfl
theorem Try.ag29 : isAggB Try.prog 29 = some false := by kernel_rfl
theorem Try.sz29 : (Try.prog.info? 29).map (·.size) = some 1 := by kernel_rfl
theorem Try.is29 : (Try.prog.info? 29).isSome = true := by kernel_rfl
theorem Try.us29 : (Try.prog.underlying 29).isSome = true := by kernel_rfl
theorem Try.ag30 : isAggB Try.prog 30 = some false := by kernel_rfl
theorem Try.sz30 : (Try.prog.info? 30).map (·.size) = some 1 := by kernel_rfl
theorem Try.is30 : (Try.prog.info? 30).isSome = true := by kernel_rfl
theorem Try.us30 : (Try.prog.underlying 30).isSome = true := by kernel_rfl
theorem Try.ag31 : isAggB Try.prog 31 = some false := by kernel_rfl
theorem Try.sz31 : (Try.prog.info? 31).map (·.size) = some 1 := by kernel_rfl
theorem Try.is31 : (Try.prog.info? 31).isSome = true := by kernel_rfl
theorem Try.us31 : (Try.prog.underlying 31).isSome = true := by kernel_rfl
theorem Try.ag32 : isAggB Try.prog 32 = some false := by kernel_rfl
theorem Try.sz32 : (Try.prog.info? 32).map (·.size) = some 1 := by kernel_rfl
theorem Try.is32 : (Try.prog.info? 32).isSome = true := by kernel_rfl
theorem Try.us32 : (Try.prog.underlying 32).isSome = true := by kernel_rfl
theorem Try.ag33 : isAggB Try.prog 33 = some false := by kernel_rfl
theorem Try.sz33 : (Try.prog.info? 33).map (·.size) = some 1 := by kernel_rfl
theorem Try.is33 : (Try.prog.info? 33).isSome = true := by kernel_rfl
theorem Try.us33 : (Try.prog.underlying 33).isSome = true := by kernel_rfl
theorem Try.ag34 : isAggB Try.prog 34 = some false := by kernel_rfl
theorem Try.sz34 : (Try.prog.info? 34).map (·.size) = some 1 := by kernel_rfl
theorem Try.is34 : (Try.prog.info? 34).isSome = true := by kernel_rfl
theorem Try.us34 : (Try.prog.underlying 34).isSome = true := by kernel_rfl
theorem Try.ag35 : isAggB Try.prog 35 = some false := by kernel_rfl
theorem Try.sz35 : (Try.prog.info? 35).map (·.size) = some 1 := by kernel_rfl
theorem Try.is35 : (Try.prog.info? 35).isSome = true := by kernel_rfl
theorem Try.us35 : (Try.prog.underlying 35).isSome = true := by kernel_rfl
theorem Try.ag36 : isAggB Try.prog 36 = some true := by kernel_rfl
theorem Try.sz36 : (Try.prog.info? 36).map (·.size) = some 16 := by kernel_rfl
theorem Try.is36 : (Try.prog.info? 36).isSome = true := by kernel_rfl
theorem Try.us36 : (Try.prog.underlying 36).isSome = true := by kernel_rfl
theorem Try.ag38 : isAggB Try.prog 38 = some false := by kernel_rfl
theorem Try.sz38 : (Try.prog.info? 38).map (·.size) = some 1 := by kernel_rfl
theorem Try.is38 : (Try.prog.info? 38).isSome = true := by kernel_rfl
theorem Try.us38 : (Try.prog.underlying 38).isSome = true := by kernel_rfl
theorem Try.ag39 : isAggB Try.prog 39 = some false := by kernel_rfl
theorem Try.sz39 : (Try.prog.info? 39).map (·.size) = some 1 := by kernel_rfl
theorem Try.is39 : (Try.prog.info? 39).isSome = true := by kernel_rfl
theorem Try.us39 : (Try.prog.underlying 39).isSome = true := by kernel_rfl
theorem Try.ag40 : isAggB Try.prog 40 = some false := by kernel_rfl
theorem Try.sz40 : (Try.prog.info? 40).map (·.size) = some 1 := by kernel_rfl
theorem Try.is40 : (Try.prog.info? 40).isSome = true := by kernel_rfl
theorem Try.us40 : (Try.prog.underlying 40).isSome = true := by kernel_rfl
theorem Try.ag41 : isAggB Try.prog 41 = some false := by kernel_rfl
theorem Try.sz41 : (Try.prog.info? 41).map (·.size) = some 1 := by kernel_rfl
theorem Try.is41 : (Try.prog.info? 41).isSome = true := by kernel_rfl
theorem Try.us41 : (Try.prog.underlying 41).isSome = true := by kernel_rfl
theorem Try.ag42 : isAggB Try.prog 42 = some true := by kernel_rfl
theorem Try.sz42 : (Try.prog.info? 42).map (·.size) = some 4 := by kernel_rfl
theorem Try.is42 : (Try.prog.info? 42).isSome = true := by kernel_rfl
theorem Try.us42 : (Try.prog.underlying 42).isSome = true := by kernel_rfl
theorem Try.off42_0 : fOff Try.prog 42 0 = some 0 := by kernel_rfl
theorem Try.off42_1 : fOff Try.prog 42 1 = some 1 := by kernel_rfl
theorem Try.off42_2 : fOff Try.prog 42 2 = some 2 := by kernel_rfl
theorem Try.off42_3 : fOff Try.prog 42 3 = some 3 := by kernel_rfl
theorem Try.ag43 : isAggB Try.prog 43 = some true := by kernel_rfl
theorem Try.sz43 : (Try.prog.info? 43).map (·.size) = some 4 := by kernel_rfl
theorem Try.is43 : (Try.prog.info? 43).isSome = true := by kernel_rfl
theorem Try.us43 : (Try.prog.underlying 43).isSome = true := by kernel_rfl
theorem Try.off43_0 : fOff Try.prog 43 0 = some 0 := by kernel_rfl
theorem Try.off43_1 : fOff Try.prog 43 1 = some 1 := by kernel_rfl
theorem Try.off43_2 : fOff Try.prog 43 2 = some 2 := by kernel_rfl
theorem Try.off43_3 : fOff Try.prog 43 3 = some 3 := by kernel_rfl
theorem Try.ag44 : isAggB Try.prog 44 = some true := by kernel_rfl
theorem Try.sz44 : (Try.prog.info? 44).map (·.size) = some 0 := by kernel_rfl
theorem Try.is44 : (Try.prog.info? 44).isSome = true := by kernel_rfl
theorem Try.us44 : (Try.prog.underlying 44).isSome = true := by kernel_rfl
theorem Try.ag45 : isAggB Try.prog 45 = some true := by kernel_rfl
theorem Try.sz45 : (Try.prog.info? 45).map (·.size) = some 0 := by kernel_rfl
theorem Try.is45 : (Try.prog.info? 45).isSome = true := by kernel_rfl
theorem Try.us45 : (Try.prog.underlying 45).isSome = true := by kernel_rfl
theorem Try.ag46 : isAggB Try.prog 46 = some true := by kernel_rfl
theorem Try.sz46 : (Try.prog.info? 46).map (·.size) = some 0 := by kernel_rfl
theorem Try.is46 : (Try.prog.info? 46).isSome = true := by kernel_rfl
theorem Try.us46 : (Try.prog.underlying 46).isSome = true := by kernel_rfl
theorem Try.ag47 : isAggB Try.prog 47 = some false := by kernel_rfl
theorem Try.sz47 : (Try.prog.info? 47).map (·.size) = some 1 := by kernel_rfl
theorem Try.is47 : (Try.prog.info? 47).isSome = true := by kernel_rfl
theorem Try.us47 : (Try.prog.underlying 47).isSome = true := by kernel_rfl
theorem Try.ag48 : isAggB Try.prog 48 = some false := by kernel_rfl
theorem Try.sz48 : (Try.prog.info? 48).map (·.size) = some 1 := by kernel_rfl
theorem Try.is48 : (Try.prog.info? 48).isSome = true := by kernel_rfl
theorem Try.us48 : (Try.prog.underlying 48).isSome = true := by kernel_rfl
theorem Try.ag49 : isAggB Try.prog 49 = some false := by kernel_rfl
theorem Try.sz49 : (Try.prog.info? 49).map (·.size) = some 1 := by kernel_rfl
theorem Try.is49 : (Try.prog.info? 49).isSome = true := by kernel_rfl
theorem Try.us49 : (Try.prog.underlying 49).isSome = true := by kernel_rfl
theorem Try.ag50 : isAggB Try.prog 50 = some false := by kernel_rfl
theorem Try.sz50 : (Try.prog.info? 50).map (·.size) = some 1 := by kernel_rfl
theorem Try.is50 : (Try.prog.info? 50).isSome = true := by kernel_rfl
theorem Try.us50 : (Try.prog.underlying 50).isSome = true := by kernel_rfl
theorem Try.ag51 : isAggB Try.prog 51 = some false := by kernel_rfl
theorem Try.sz51 : (Try.prog.info? 51).map (·.size) = some 1 := by kernel_rfl
theorem Try.is51 : (Try.prog.info? 51).isSome = true := by kernel_rfl
theorem Try.us51 : (Try.prog.underlying 51).isSome = true := by kernel_rfl
theorem Try.ag52 : isAggB Try.prog 52 = some false := by kernel_rfl
theorem Try.sz52 : (Try.prog.info? 52).map (·.size) = some 1 := by kernel_rfl
theorem Try.is52 : (Try.prog.info? 52).isSome = true := by kernel_rfl
theorem Try.us52 : (Try.prog.underlying 52).isSome = true := by kernel_rfl
theorem Try.ag53 : isAggB Try.prog 53 = some false := by kernel_rfl
theorem Try.sz53 : (Try.prog.info? 53).map (·.size) = some 1 := by kernel_rfl
theorem Try.is53 : (Try.prog.info? 53).isSome = true := by kernel_rfl
theorem Try.us53 : (Try.prog.underlying 53).isSome = true := by kernel_rfl
theorem Try.ag54 : isAggB Try.prog 54 = some false := by kernel_rfl
theorem Try.sz54 : (Try.prog.info? 54).map (·.size) = some 1 := by kernel_rfl
theorem Try.is54 : (Try.prog.info? 54).isSome = true := by kernel_rfl
theorem Try.us54 : (Try.prog.underlying 54).isSome = true := by kernel_rfl
theorem Try.ag55 : isAggB Try.prog 55 = some true := by kernel_rfl
theorem Try.sz55 : (Try.prog.info? 55).map (·.size) = some 11 := by kernel_rfl
theorem Try.is55 : (Try.prog.info? 55).isSome = true := by kernel_rfl
theorem Try.us55 : (Try.prog.underlying 55).isSome = true := by kernel_rfl
theorem Try.off55_0 : fOff Try.prog 55 0 = some 0 := by kernel_rfl
theorem Try.off55_1 : fOff Try.prog 55 1 = some 1 := by kernel_rfl
theorem Try.off55_2 : fOff Try.prog 55 2 = some 2 := by kernel_rfl
theorem Try.off55_3 : fOff Try.prog 55 3 = some 3 := by kernel_rfl
theorem Try.off55_4 : fOff Try.prog 55 4 = some 4 := by kernel_rfl
theorem Try.off55_5 : fOff Try.prog 55 5 = some 5 := by kernel_rfl
theorem Try.off55_6 : fOff Try.prog 55 6 = some 6 := by kernel_rfl
theorem Try.off55_7 : fOff Try.prog 55 7 = some 7 := by kernel_rfl
theorem Try.off55_8 : fOff Try.prog 55 8 = some 8 := by kernel_rfl
theorem Try.off55_9 : fOff Try.prog 55 9 = some 9 := by kernel_rfl
theorem Try.off55_10 : fOff Try.prog 55 10 = some 10 := by kernel_rfl
theorem Try.ag56 : isAggB Try.prog 56 = some true := by kernel_rfl
theorem Try.sz56 : (Try.prog.info? 56).map (·.size) = some 11 := by kernel_rfl
theorem Try.is56 : (Try.prog.info? 56).isSome = true := by kernel_rfl
theorem Try.us56 : (Try.prog.underlying 56).isSome = true := by kernel_rfl
theorem Try.off56_0 : fOff Try.prog 56 0 = some 0 := by kernel_rfl
theorem Try.off56_1 : fOff Try.prog 56 1 = some 1 := by kernel_rfl
theorem Try.off56_2 : fOff Try.prog 56 2 = some 2 := by kernel_rfl
theorem Try.off56_3 : fOff Try.prog 56 3 = some 3 := by kernel_rfl
theorem Try.off56_4 : fOff Try.prog 56 4 = some 4 := by kernel_rfl
theorem Try.off56_5 : fOff Try.prog 56 5 = some 5 := by kernel_rfl
theorem Try.off56_6 : fOff Try.prog 56 6 = some 6 := by kernel_rfl
theorem Try.off56_7 : fOff Try.prog 56 7 = some 7 := by kernel_rfl
theorem Try.off56_8 : fOff Try.prog 56 8 = some 8 := by kernel_rfl
theorem Try.off56_9 : fOff Try.prog 56 9 = some 9 := by kernel_rfl
theorem Try.off56_10 : fOff Try.prog 56 10 = some 10 := by kernel_rfl
theorem Try.ag57 : isAggB Try.prog 57 = some false := by kernel_rfl
theorem Try.sz57 : (Try.prog.info? 57).map (·.size) = some 1 := by kernel_rfl
theorem Try.is57 : (Try.prog.info? 57).isSome = true := by kernel_rfl
theorem Try.us57 : (Try.prog.underlying 57).isSome = true := by kernel_rfl
theorem Try.cl3 : callable Try.prog 3 = true := by kernel_rfl
theorem Try.cl4 : callable Try.prog 4 = true := by kernel_rfl
theorem Try.cl5 : callable Try.prog 5 = true := by kernel_rfl
theorem Try.cl6 : callable Try.prog 6 = true := by kernel_rfl
theorem Try.cl7 : callable Try.prog 7 = true := by kernel_rfl
theorem Try.cl8 : callable Try.prog 8 = true := by kernel_rfl
theorem Try.cl9 : callable Try.prog 9 = true := by kernel_rfl
theorem Try.cl10 : callable Try.prog 10 = true := by kernel_rfl
theorem Try.cl11 : callable Try.prog 11 = true := by kernel_rfl
theorem Try.cl12 : callable Try.prog 12 = true := by kernel_rfl
theorem Try.cl13 : callable Try.prog 13 = true := by kernel_rfl
theorem Try.cl14 : callable Try.prog 14 = true := by kernel_rfl
theorem Try.cl15 : callable Try.prog 15 = true := by kernel_rfl
theorem Try.cl16 : callable Try.prog 16 = true := by kernel_rfl
theorem Try.cl17 : callable Try.prog 17 = true := by kernel_rfl
end Go.Proofs.Ytoilfnbbkemapaa

