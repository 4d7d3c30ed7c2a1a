/- A reading of the program that can be carried out: operations with all that hangs on the program alone looked up ahead. -/
import Derived.Test.YtcnnobcncklgfaaGreatDoorAbsRules
